/- Contracts of functions that the laws of this seat call. -/
import Derived.Test.YtjmkdnnfhphckaaWC
set_option linter.all false
namespace Go.Proofs.Ytjmkdnnfhphckaa
open Go Go.Ev Go.RowKit Go.Ev.Enc Go.Pl

/-! ### views spread to a shape: n of the view's dimensions are done -/
def sprK (v : Vi) (S : List Int) (m n : Nat) : List Int := (List.range S.length).map fun j => if (m ≤ j ∧ j < m + n) ∧ v.sh.getD (j - m) 0 = S.getD j 0 then v.st.getD (j - m) 0 else 0
def sprC (v : Vi) (S : List Int) (m n : Nat) : Bool := (List.range n).all fun i => decide (v.sh.getD i 0 = S.getD (m + i) 0) || decide (v.sh.getD i 0 = 1)
theorem sprK_len (v : Vi) (S : List Int) (m n : Nat) : (sprK v S m n).length = S.length := by simp [sprK]
theorem sprK_at {v : Vi} {S : List Int} {m n j : Nat} (h : j < S.length) : (sprK v S m n).getD j 0 = if (m ≤ j ∧ j < m + n) ∧ v.sh.getD (j - m) 0 = S.getD j 0 then v.st.getD (j - m) 0 else 0 := by
  unfold sprK
  rw [List.getD_eq_getElem?_getD, List.getElem?_map, List.getElem?_range h]
  rfl
theorem sprK_0 (v : Vi) (S : List Int) (m : Nat) : sprK v S m 0 = List.replicate S.length 0 := by
  unfold sprK
  rw [List.map_congr_left (g := fun _ => (0 : Int)) fun j _ => if_neg (by omega), List.map_const', List.length_range]
theorem getD_ext {a b : List Int} (h : a.length = b.length) (he : ∀ j, j < a.length → a.getD j 0 = b.getD j 0) : a = b := by
  refine List.ext_getElem h fun j h1 h2 => ?_
  have := he j h1
  simpa [List.getD_eq_getElem?_getD, h1, h2] using this
theorem sprK_eq {v : Vi} {S : List Int} {m n : Nat} (h : m + n < S.length) (he : v.sh.getD n 0 = S.getD (m + n) 0) : sprK v S m (n + 1) = (sprK v S m n).set (m + n) (v.st.getD n 0) := by
  refine getD_ext (by simp [sprK_len]) fun j hj => ?_
  rw [sprK_len] at hj
  rw [sprK_at hj]
  by_cases hm : j = m + n
  · subst hm
    rw [getD_set_eq (by rw [sprK_len]; exact h), show m + n - m = n by omega, if_pos ⟨by omega, he⟩]
  · rw [getD_set_ne hm, sprK_at hj]
    by_cases c : (m ≤ j ∧ j < m + n) ∧ v.sh.getD (j - m) 0 = S.getD j 0
    · rw [if_pos c, if_pos ⟨by omega, c.2⟩]
    · rw [if_neg c, if_neg fun c' => c ⟨by omega, c'.2⟩]
theorem sprK_ne {v : Vi} {S : List Int} {m n : Nat} (he : ¬ v.sh.getD n 0 = S.getD (m + n) 0) : sprK v S m (n + 1) = sprK v S m n := by
  refine getD_ext (by simp [sprK_len]) fun j hj => ?_
  rw [sprK_len] at hj
  rw [sprK_at hj, sprK_at hj]
  by_cases hm : j = m + n
  · subst hm
    rw [show m + n - m = n by omega, if_neg fun c => he c.2, if_neg fun c => by omega]
  · by_cases c : (m ≤ j ∧ j < m + n) ∧ v.sh.getD (j - m) 0 = S.getD j 0
    · rw [if_pos c, if_pos ⟨by omega, c.2⟩]
    · rw [if_neg c, if_neg fun c' => c ⟨by omega, c'.2⟩]
theorem sprC_s (v : Vi) (S : List Int) (m n : Nat) : sprC v S m (n + 1) = (sprC v S m n && (decide (v.sh.getD n 0 = S.getD (m + n) 0) || decide (v.sh.getD n 0 = 1))) := by
  unfold sprC
  rw [List.range_succ, List.all_append]
  simp
theorem sprC_at {v : Vi} {S : List Int} {m n : Nat} (h : sprC v S m n = true) {i : Nat} (hi : i < n) : v.sh.getD i 0 = S.getD (m + i) 0 ∨ v.sh.getD i 0 = 1 := by
  unfold sprC at h
  rw [List.all_eq_true] at h
  have := h i (List.mem_range.2 hi)
  simpa using this
theorem sprC_no {v : Vi} {S : List Int} {m n i : Nat} (hi : i < n) (h1 : ¬ v.sh.getD i 0 = S.getD (m + i) 0) (h2 : ¬ v.sh.getD i 0 = 1) : sprC v S m n = false := by
  cases e : sprC v S m n with
  | false => rfl
  | true => rcases sprC_at e hi with h | h <;> contradiction
/-- the index of the view, for an index of the shape -/
def sprX (v : Vi) (x : List Int) (m : Nat) : List Int := (List.range v.sh.length).map fun i => if v.sh.getD i 0 = 1 then 0 else x.getD (m + i) 0
theorem sprX_at {v : Vi} {x : List Int} {m i : Nat} (h : i < v.sh.length) : (sprX v x m).getD i 0 = if v.sh.getD i 0 = 1 then 0 else x.getD (m + i) 0 := by
  unfold sprX
  rw [List.getD_eq_getElem?_getD, List.getElem?_map, List.getElem?_range h]
  rfl
theorem sprX_ix {v : Vi} {S x : List Int} {m : Nat} (hm : m + v.sh.length = S.length) (hc : sprC v S m v.sh.length = true) (hx : vIx S x) : vIx v.sh (sprX v x m) := by
  refine ⟨by simp [sprX], fun i hi => ?_⟩
  rw [sprX_at hi]
  by_cases h1 : v.sh.getD i 0 = 1
  · rw [if_pos h1]; omega
  · rw [if_neg h1]
    rcases sprC_at hc hi with h | h
    · rw [h]; exact hx.2 (m + i) (by omega)
    · contradiction
theorem spr_lo {v : Vi} {S x : List Int} {m n : Nat} : ∀ k, k ≤ m → m ≤ S.length → offP ⟨v.b, S, sprK v S m n⟩ x k = v.b
  | 0, _, _ => rfl
  | k + 1, h, hS => by
    rw [offP, spr_lo k (by omega) hS]
    show v.b + x.getD k 0 * (sprK v S m n).getD k 0 = v.b
    rw [sprK_at (by omega), if_neg (by omega), Int.mul_zero, Int.add_zero]
theorem spr_hi {v : Vi} {S x : List Int} {m : Nat} (hm : m + v.sh.length = S.length) (hc : sprC v S m v.sh.length = true) (hx : vIx S x) : ∀ k, k ≤ v.sh.length → offP ⟨v.b, S, sprK v S m v.sh.length⟩ x (m + k) = offP v (sprX v x m) k
  | 0, _ => spr_lo m (Nat.le_refl _) (by omega)
  | k + 1, h => by
    rw [← Nat.add_assoc, offP, spr_hi hm hc hx k (by omega), offP]
    show _ + x.getD (m + k) 0 * (sprK v S m v.sh.length).getD (m + k) 0 = _
    rw [sprK_at (by omega), sprX_at (by omega), show m + k - m = k by omega]
    have hxk := hx.2 (m + k) (by omega)
    by_cases h1 : v.sh.getD k 0 = 1
    · rw [if_pos h1, Int.zero_mul]
      by_cases h2 : v.sh.getD k 0 = S.getD (m + k) 0
      · have : x.getD (m + k) 0 = 0 := by omega
        rw [this, Int.zero_mul]
      · rw [if_neg fun c => h2 c.2, Int.mul_zero]
    · rw [if_neg h1]
      rcases sprC_at hc (show k < v.sh.length by omega) with h2 | h2
      · rw [if_pos ⟨by omega, h2⟩]
      · contradiction
theorem spr_off {v : Vi} {S x : List Int} {m : Nat} (hm : m + v.sh.length = S.length) (hc : sprC v S m v.sh.length = true) (hx : vIx S x) : offP ⟨v.b, S, sprK v S m v.sh.length⟩ x S.length = offP v (sprX v x m) v.sh.length := by
  rw [← spr_hi hm hc hx _ (Nat.le_refl _), hm]
def sprF (v : Vi) (S : List Int) : Vi := tidyF ⟨v.b, S, sprK v S (S.length - v.sh.length) v.sh.length⟩
theorem spr_sh (v : Vi) (S : List Int) : (sprF v S).sh = S := by
  unfold sprF tidyF
  split <;> rfl
theorem sprK_st {v : Vi} (h : viewOK v = true) (S : List Int) (m n : Nat) : ∀ x ∈ sprK v S m n, -60 ≤ x ∧ x ≤ 60 := fun x hx => by
  unfold sprK at hx
  obtain ⟨j, -, rfl⟩ := List.mem_map.1 hx
  split
  · exact st_bd h _
  · omega
theorem spr_ok {v : Vi} {S : List Int} (h : viewOK v = true) (hS : shapeOK S = true) (hl : v.sh.length ≤ S.length) (hc : sprC v S (S.length - v.sh.length) v.sh.length = true) : viewOK (sprF v S) = true := by
  obtain ⟨k1, k2, k3, k4, k5⟩ := viewOK_iff.1 h
  have hs' := shape_facts hS
  unfold sprF tidyF
  by_cases hz : prodW S = 0
  · rw [if_pos hz]
    refine viewOK_iff.2 ⟨hS, by simp, fun x hx => ?_, by dsimp only; omega, fun x hx => ?_⟩
    · have := (List.mem_replicate.1 hx).2
      omega
    · rw [offF_zero (v := ⟨0, _, _⟩) hz] at hx
      simp at hx
  · rw [if_neg hz]
    have hst := sprK_st h S (S.length - v.sh.length) v.sh.length
    have hstl : ∀ m, -60 ≤ (sprK v S (S.length - v.sh.length) v.sh.length).getD m 0 ∧ (sprK v S (S.length - v.sh.length) v.sh.length).getD m 0 ≤ 60 := fun m => by
      by_cases hm : m < (sprK v S (S.length - v.sh.length) v.sh.length).length
      · exact hst _ (gmem hm)
      · rw [List.getD_eq_getElem?_getD, List.getElem?_eq_none (by omega)]; simp
    refine viewOK_iff.2 ⟨hS, sprK_len _ _ _ _, hst, k4, fun x hx => ?_⟩
    unfold offF at hx
    obtain ⟨k, hk, rfl⟩ := List.mem_map.1 hx
    have hix := unr_ix hs'.2.1 (shape_posV hS hz) k
    have e := (offW_P (v := ⟨v.b, S, sprK v S (S.length - v.sh.length) v.sh.length⟩) k4 hstl (ix_bd hs'.2.1 hix) S.length hs'.1).1
    show 0 ≤ offW _ _ S.length ∧ offW _ _ S.length < 60
    rw [e, spr_off (by omega) hc hix]
    exact offP_bd h (sprX_ix (by omega) hc hix)
theorem spr_cell {v : Vi} {S x : List Int} (hz : ¬ prodW S = 0) (hl : v.sh.length ≤ S.length) (hc : sprC v S (S.length - v.sh.length) v.sh.length = true) (hx : vIx S x) : offP (sprF v S) x S.length = offP v (sprX v x (S.length - v.sh.length)) v.sh.length := by
  unfold sprF tidyF
  rw [if_neg (show ¬ prodW (Vi.mk v.b S (sprK v S (S.length - v.sh.length) v.sh.length)).sh = 0 from hz)]
  exact spr_off (by omega) hc hx
theorem spr_mem {v : Vi} {S : List Int} (h : viewOK v = true) (hS : shapeOK S = true) (hl : v.sh.length ≤ S.length) (hc : sprC v S (S.length - v.sh.length) v.sh.length = true) {y : Int} (hy : y ∈ offF (sprF v S)) : y ∈ offF v := by
  obtain ⟨x, hx, rfl⟩ := (mem_offF (spr_ok h hS hl hc)).1 hy
  rw [spr_sh] at hx
  by_cases hz : prodW S = 0
  · rw [offF_zero (by rw [spr_sh]; exact hz)] at hy
    simp at hy
  · rw [spr_sh, spr_cell hz hl hc hx]
    exact offP_mem h (sprX_ix (by omega) hc hx)
/-! ### the index, made step by step -/
def zX (v : Vi) (x : List Int) (m n : Nat) : List Int := (List.range x.length).map fun j => if (m ≤ j ∧ j < m + n) ∧ v.sh.getD (j - m) 0 = 1 then 0 else x.getD j 0
theorem zX_len (v : Vi) (x : List Int) (m n : Nat) : (zX v x m n).length = x.length := by simp [zX]
theorem zX_at {v : Vi} {x : List Int} {m n j : Nat} (h : j < x.length) : (zX v x m n).getD j 0 = if (m ≤ j ∧ j < m + n) ∧ v.sh.getD (j - m) 0 = 1 then 0 else x.getD j 0 := by
  unfold zX
  rw [List.getD_eq_getElem?_getD, List.getElem?_map, List.getElem?_range h]
  rfl
theorem zX_0 (v : Vi) (x : List Int) (m : Nat) : zX v x m 0 = x :=
  getD_ext (zX_len _ _ _ _) fun j hj => by rw [zX_len] at hj; rw [zX_at hj, if_neg (by omega)]
theorem zX_eq {v : Vi} {x : List Int} {m n : Nat} (h : m + n < x.length) (he : v.sh.getD n 0 = 1) : zX v x m (n + 1) = (zX v x m n).set (m + n) 0 := by
  refine getD_ext (by simp [zX_len]) fun j hj => ?_
  rw [zX_len] at hj
  rw [zX_at hj]
  by_cases hm : j = m + n
  · subst hm
    rw [getD_set_eq (by rw [zX_len]; exact h), show m + n - m = n by omega, if_pos ⟨by omega, he⟩]
  · rw [getD_set_ne hm, zX_at hj]
    by_cases c : (m ≤ j ∧ j < m + n) ∧ v.sh.getD (j - m) 0 = 1
    · rw [if_pos c, if_pos ⟨by omega, c.2⟩]
    · rw [if_neg c, if_neg fun c' => c ⟨by omega, c'.2⟩]
theorem zX_ne {v : Vi} {x : List Int} {m n : Nat} (he : ¬ v.sh.getD n 0 = 1) : zX v x m (n + 1) = zX v x m n := by
  refine getD_ext (by simp [zX_len]) fun j hj => ?_
  rw [zX_len] at hj
  rw [zX_at hj, zX_at hj]
  by_cases hm : j = m + n
  · subst hm
    rw [show m + n - m = n by omega, if_neg fun c => he c.2, if_neg fun c => by omega]
  · by_cases c : (m ≤ j ∧ j < m + n) ∧ v.sh.getD (j - m) 0 = 1
    · rw [if_pos c, if_pos ⟨by omega, c.2⟩]
    · rw [if_neg c, if_neg fun c' => c ⟨by omega, c'.2⟩]
theorem zX_drop {v : Vi} {x : List Int} {m : Nat} (h : m + v.sh.length = x.length) : (zX v x m v.sh.length).drop m = sprX v x m := by
  refine getD_ext (by rw [List.length_drop, zX_len]; simp [sprX]; omega) fun j hj => ?_
  rw [List.length_drop, zX_len] at hj
  rw [sprX_at (by omega), List.getD_eq_getElem?_getD, List.getElem?_drop, ← List.getD_eq_getElem?_getD, zX_at (by omega), show m + j - m = j by omega]
  by_cases c : v.sh.getD j 0 = 1
  · rw [if_pos c, if_pos ⟨by omega, c⟩]
  · rw [if_neg c, if_neg fun c' => c c'.2]
end Go.Proofs.Ytjmkdnnfhphckaa
