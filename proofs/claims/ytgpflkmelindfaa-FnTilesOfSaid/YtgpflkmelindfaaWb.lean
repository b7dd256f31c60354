/- Contracts of functions that the laws of this seat call. -/
import Derived.Test.YtgpflkmelindfaaWa
set_option linter.all false
namespace Go.Proofs.Ytgpflkmelindfaa
open Go Go.Ev Go.RowKit Go.Ev.Enc Go.Pl

/-! ### indices and their cells -/
def vIx (s x : List Int) : Prop := x.length = s.length ∧ ∀ i, i < s.length → 0 ≤ x.getD i 0 ∧ x.getD i 0 < s.getD i 0
theorem last_split {n : Nat} {l : List Int} (h : l.length = n + 1) : l = l.take n ++ [l.getD n 0] := by
  rw [← take_snocI (by omega), ← h, List.take_length]
/-- each index has a rank -/
theorem rank_ex : ∀ (n : Nat) (s x : List Int), s.length = n → vIx s x → ∃ k : Nat, (k : Int) < prE s ∧ unrF s (k : Int) = x
  | 0, s, x, hn, ⟨h1, _⟩ => by
    obtain rfl := List.length_eq_zero_iff.1 hn
    obtain rfl := List.length_eq_zero_iff.1 h1
    exact ⟨0, by decide, rfl⟩
  | n + 1, s, x, hn, ⟨h1, h2⟩ => by
    have es := last_split hn
    have ex := last_split (h1.trans hn)
    have hx := h2 n (by omega)
    have hv : vIx (s.take n) (x.take n) := by
      refine ⟨by rw [List.length_take, List.length_take]; omega, fun i hi => ?_⟩
      rw [List.length_take] at hi
      have := h2 i (by omega)
      have g1 : (x.take n).getD i 0 = x.getD i 0 := by simp [List.getD_eq_getElem?_getD, List.getElem?_take, show i < n by omega]
      have g2 : (s.take n).getD i 0 = s.getD i 0 := by simp [List.getD_eq_getElem?_getD, List.getElem?_take, show i < n by omega]
      rw [g1, g2]; exact this
    obtain ⟨q, hq, hu⟩ := rank_ex n (s.take n) (x.take n) (by rw [List.length_take]; omega) hv
    obtain ⟨d, hd⟩ : ∃ d : Nat, s.getD n 0 = d := ⟨(s.getD n 0).toNat, by omega⟩
    obtain ⟨r, hr⟩ : ∃ r : Nat, x.getD n 0 = r := ⟨(x.getD n 0).toNat, by omega⟩
    rw [hd, hr] at hx
    refine ⟨q * d + r, ?_, ?_⟩
    · rw [es, prE_snoc, hd]
      have : ((q : Int) + 1) * d ≤ prE (s.take n) * d := Int.mul_le_mul_of_nonneg_right (by omega) (by omega)
      rw [Int.add_mul] at this
      push_cast
      omega
    · rw [es, ex, hd, hr, unrF_qr _ _ _ _ (by omega), hu]
theorem unr_ix {s : List Int} (hs : inE s) (hp : ∀ i, i < s.length → 1 ≤ s.getD i 0) (k : Nat) : vIx s (unrF s (k : Int)) :=
  ⟨unrF_len _ _, fun i hi => unrF_bd hp (by omega) hi⟩
/-- the cell of an index -/
def offP (v : Vi) (x : List Int) : Nat → Int
  | 0 => v.b
  | m + 1 => offP v x m + x.getD m 0 * v.st.getD m 0
theorem mul_bd {x s : Int} (h1 : 0 ≤ x ∧ x ≤ 60) (h2 : -60 ≤ s ∧ s ≤ 60) : -3600 ≤ x * s ∧ x * s ≤ 3600 := by
  have b1 : x * s ≤ x * 60 := Int.mul_le_mul_of_nonneg_left h2.2 h1.1
  have b2 : x * (-60) ≤ x * s := Int.mul_le_mul_of_nonneg_left h2.1 h1.1
  omega
theorem offW_P {v : Vi} {x : List Int} (hb : 0 ≤ v.b ∧ v.b ≤ 60) (hs : ∀ m, -60 ≤ v.st.getD m 0 ∧ v.st.getD m 0 ≤ 60) (hx : ∀ m, 0 ≤ x.getD m 0 ∧ x.getD m 0 ≤ 60) : ∀ m, m ≤ 4 → offW v x m = offP v x m ∧ -(60 + 3600 * (m : Int)) ≤ offP v x m ∧ offP v x m ≤ 60 + 3600 * (m : Int)
  | 0, _ => ⟨rfl, by unfold offP; omega, by unfold offP; omega⟩
  | m + 1, hm => by
    obtain ⟨e, l1, l2⟩ := offW_P hb hs hx m (by omega)
    have hb := mul_bd (hx m) (hs m)
    have e2 : offW v x (m + 1) = offP v x (m + 1) := by
      rw [offW, offP, e, wrap_in (show -9223372036854775808 ≤ x.getD m 0 * v.st.getD m 0 ∧ x.getD m 0 * v.st.getD m 0 ≤ 9223372036854775807 by omega), wrap_in (by omega)]
    refine ⟨e2, ?_, ?_⟩
    · rw [offP]; push_cast; omega
    · rw [offP]; push_cast; omega
theorem st_bd {v : Vi} (h : viewOK v = true) (m : Nat) : -60 ≤ v.st.getD m 0 ∧ v.st.getD m 0 ≤ 60 := by
  by_cases hm : m < v.st.length
  · exact (viewOK_iff.1 h).2.2.1 _ (gmem hm)
  · rw [List.getD_eq_getElem?_getD, List.getElem?_eq_none (by omega)]; simp
theorem ix_bd {s x : List Int} (hs : inE s) (h : vIx s x) (m : Nat) : 0 ≤ x.getD m 0 ∧ x.getD m 0 ≤ 60 := by
  by_cases hm : m < s.length
  · have := h.2 m hm
    have := hs _ (gmem hm)
    omega
  · rw [List.getD_eq_getElem?_getD, List.getElem?_eq_none (by have := h.1; omega)]; simp
/-- the cells are those of the indices -/
theorem offW_ix {v : Vi} (h : viewOK v = true) {x : List Int} (hx : vIx v.sh x) : offW v x v.sh.length = offP v x v.sh.length := by
  obtain ⟨k1, k2, k3, k4, k5⟩ := viewOK_iff.1 h
  obtain ⟨s1, s2, s3, s4, s5⟩ := shape_facts k1
  exact (offW_P k4 (st_bd h) (ix_bd s2 hx) _ s1).1
theorem ix_pos {s x : List Int} (h : vIx s x) : ∀ i, i < s.length → 1 ≤ s.getD i 0 := fun i hi => by have := h.2 i hi; omega
theorem offP_mem {v : Vi} (h : viewOK v = true) {x : List Int} (hx : vIx v.sh x) : offP v x v.sh.length ∈ offF v := by
  obtain ⟨k1, k2, k3, k4, k5⟩ := viewOK_iff.1 h
  obtain ⟨s1, s2, s3, s4, s5⟩ := shape_facts k1
  obtain ⟨k, hk, hu⟩ := rank_ex _ _ _ rfl hx
  rw [← offW_ix h hx]
  unfold offF
  rw [List.mem_map]
  exact ⟨k, List.mem_range.2 (by omega), by rw [hu]⟩
theorem offP_bd {v : Vi} (h : viewOK v = true) {x : List Int} (hx : vIx v.sh x) : 0 ≤ offP v x v.sh.length ∧ offP v x v.sh.length < 60 :=
  (viewOK_iff.1 h).2.2.2.2 _ (offP_mem h hx)
theorem shape_posV {s : List Int} (h : shapeOK s = true) (hz : ¬ prodW s = 0) : ∀ i, i < s.length → 1 ≤ s.getD i 0 := by
  have := shape_facts h
  exact shape_pos h (k := 0) (by omega)
theorem mem_offF {v : Vi} (h : viewOK v = true) {y : Int} : y ∈ offF v ↔ ∃ x, vIx v.sh x ∧ y = offP v x v.sh.length := by
  constructor
  · intro hy
    unfold offF at hy
    obtain ⟨k, hk, rfl⟩ := List.mem_map.1 hy
    have hk := List.mem_range.1 hk
    obtain ⟨k1, k2, k3, k4, k5⟩ := viewOK_iff.1 h
    have hx := unr_ix (shape_facts k1).2.1 (shape_pos k1 hk) k
    exact ⟨_, hx, offW_ix h hx⟩
  · rintro ⟨x, hx, rfl⟩
    exact offP_mem h hx
theorem offF_at {v : Vi} {k : Nat} (hk : k < (prodW v.sh).toNat) : (offF v).getD k 0 = offW v (unrF v.sh (k : Int)) v.sh.length := by
  unfold offF; simp [hk]
/-! ### a slice of a dimension -/
theorem getD_set_eq {l : List Int} {d : Nat} {y : Int} (h : d < l.length) : (l.set d y).getD d 0 = y := by simp [h]
theorem getD_set_ne {l : List Int} {d m : Nat} {y : Int} (h : m ≠ d) : (l.set d y).getD m 0 = l.getD m 0 := by
  simp [List.getD_eq_getElem?_getD, List.getElem?_set, Ne.symm h]
theorem offP_set {v : Vi} {x : List Int} {d : Nat} (hd : d < x.length) (y : Int) : ∀ m, offP v (x.set d y) m = offP v x m + if d < m then (y - x.getD d 0) * v.st.getD d 0 else 0
  | 0 => by simp [offP]
  | m + 1 => by
    rw [offP, offP, offP_set hd y m]
    by_cases hm : m = d
    · subst hm
      rw [getD_set_eq hd, if_neg (by omega), if_pos (by omega), Int.sub_mul]; omega
    · rw [getD_set_ne hm]
      by_cases h2 : d < m
      · rw [if_pos h2, if_pos (by omega)]; omega
      · rw [if_neg h2, if_neg (by omega)]; omega
theorem offP_cut {v : Vi} {x : List Int} {d : Nat} (hd : d < v.st.length) (b s : Int) (sh : List Int) : ∀ m, offP ⟨b, sh, v.st.set d s⟩ x m = offP v x m + (b - v.b) + if d < m then x.getD d 0 * (s - v.st.getD d 0) else 0
  | 0 => by simp only [offP]; rw [if_neg (Nat.not_lt_zero _)]; omega
  | m + 1 => by
    rw [offP, offP, offP_cut hd b s sh m]
    show _ + x.getD m 0 * (v.st.set d s).getD m 0 = _
    by_cases hm : m = d
    · subst hm
      rw [getD_set_eq hd, if_neg (by omega), if_pos (by omega), Int.mul_sub]; omega
    · rw [getD_set_ne hm]
      by_cases h2 : d < m
      · rw [if_pos h2, if_pos (by omega)]; omega
      · rw [if_neg h2, if_neg (by omega)]; omega
/-- numbers with equal steps -/
def isAP (I : List Int) : Prop := ∀ j, j < I.length → I.getD j 0 = I.getD 0 0 + (j : Int) * (I.getD 1 0 - I.getD 0 0)
def slcG (v : Vi) (d : Nat) (I : List Int) : Vi := ⟨if 0 < I.length then v.b + v.st.getD d 0 * I.getD 0 0 else v.b, v.sh.set d I.length, v.st.set d (if 1 < I.length then v.st.getD d 0 * (I.getD 1 0 - I.getD 0 0) else 0)⟩
def slcF (v : Vi) (d : Nat) (I : List Int) : Vi := tidyF (slcG v d I)
theorem slc_sh (v : Vi) (d : Nat) (I : List Int) : (slcF v d I).sh = v.sh.set d I.length := by
  unfold slcF tidyF
  split <;> rfl
/-- an index of the slice is one of the view -/
theorem slc_vix {v : Vi} {d : Nat} {I x : List Int} (hd : d < v.sh.length) (hI : ∀ y ∈ I, 0 ≤ y ∧ y < v.sh.getD d 0) (hx : vIx (v.sh.set d I.length) x) : vIx v.sh (x.set d (I.getD (x.getD d 0).toNat 0)) := by
  obtain ⟨h1, h2⟩ := hx
  rw [List.length_set] at h1 h2
  refine ⟨by rw [List.length_set]; exact h1, fun i hi => ?_⟩
  have := h2 i hi
  by_cases hm : i = d
  · subst hm
    rw [getD_set_eq hi] at this
    rw [getD_set_eq (by omega)]
    exact hI _ (gmem (by omega))
  · rw [getD_set_ne hm] at this
    rw [getD_set_ne hm]
    exact this
theorem slc_off {v : Vi} {d : Nat} {I x : List Int} (hd : d < v.sh.length) (hst : v.st.length = v.sh.length) (hap : isAP I) (hx : vIx (v.sh.set d I.length) x) : offP (slcG v d I) x v.sh.length = offP v (x.set d (I.getD (x.getD d 0).toNat 0)) v.sh.length := by
  obtain ⟨h1, h2⟩ := hx
  rw [List.length_set] at h1 h2
  have hxd := h2 d hd
  rw [getD_set_eq hd] at hxd
  unfold slcG
  rw [offP_cut (by omega), offP_set (by omega), if_pos hd, if_pos hd, if_pos (by omega)]
  obtain ⟨j, hj⟩ : ∃ j : Nat, x.getD d 0 = j := ⟨(x.getD d 0).toNat, by omega⟩
  rw [hj] at hxd ⊢
  rw [Int.toNat_natCast, hap j (by omega)]
  by_cases h1 : 1 < I.length
  · rw [if_pos h1]
    generalize v.st.getD d 0 = s
    generalize I.getD 0 0 = a
    generalize I.getD 1 0 = c
    generalize (j : Int) = t
    grind
  · rw [if_neg h1]
    obtain rfl : j = 0 := by omega
    generalize v.st.getD d 0 = s
    generalize I.getD 0 0 = a
    simp [Int.mul_comm, Int.add_assoc]
    omega
end Go.Proofs.Ytgpflkmelindfaa
