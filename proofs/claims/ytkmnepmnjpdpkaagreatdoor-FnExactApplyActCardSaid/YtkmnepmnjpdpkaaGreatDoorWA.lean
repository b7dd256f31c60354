/- Contracts of functions on views and memories that the laws of this seat call. -/
import Derived.Test.YtkmnepmnjpdpkaaGreatDoorVC
set_option linter.all false
namespace Go.Proofs.YtkmnepmnjpdpkaaGreatDoor
open Go Go.Ev Go.RowKit Go.Ev.Enc Go.Pl

def lineF (b s : Int) (N : Nat) : List Int := (List.range N).map fun k : Nat => b + (k : Int) * s
theorem lineF_len (b s : Int) (N : Nat) : (lineF b s N).length = N := by simp [lineF]
theorem lineF_at {b s : Int} {N k : Nat} (h : k < N) : (lineF b s N).getD k 0 = b + (k : Int) * s := by simp [lineF, h]
end Go.Proofs.YtkmnepmnjpdpkaaGreatDoor
namespace Go.Proofs.YtkmnepmnjpdpkaaGreatDoor
open Go Go.Ev Go.RowKit Go.Ev.Enc Go.Pl

def vIx (s x : List Int) : Prop := x.length = s.length ∧ ∀ i, i < s.length → 0 ≤ x.getD i 0 ∧ x.getD i 0 < s.getD i 0
theorem last_split {n : Nat} {l : List Int} (h : l.length = n + 1) : l = l.take n ++ [l.getD n 0] := by
  rw [← take_snocI (by omega), ← h, List.take_length]
theorem rank_ex : ∀ (n : Nat) (s x : List Int), s.length = n → vIx s x → ∃ k : Nat, (k : Int) < prE s ∧ unrF s (k : Int) = x
  | 0, s, x, hn, ⟨h1, _⟩ => by
    obtain rfl := List.length_eq_zero_iff.1 hn
    obtain rfl := List.length_eq_zero_iff.1 h1
    exact ⟨0, by decide, rfl⟩
  | n + 1, s, x, hn, ⟨h1, h2⟩ => by
    have es := last_split hn
    have ex := last_split (h1.trans hn)
    have hx := h2 n (by omega)
    have hv : vIx (s.take n) (x.take n) := by
      refine ⟨by rw [List.length_take, List.length_take]; omega, fun i hi => ?_⟩
      rw [List.length_take] at hi
      have := h2 i (by omega)
      have g1 : (x.take n).getD i 0 = x.getD i 0 := by simp [List.getD_eq_getElem?_getD, List.getElem?_take, show i < n by omega]
      have g2 : (s.take n).getD i 0 = s.getD i 0 := by simp [List.getD_eq_getElem?_getD, List.getElem?_take, show i < n by omega]
      rw [g1, g2]; exact this
    obtain ⟨q, hq, hu⟩ := rank_ex n (s.take n) (x.take n) (by rw [List.length_take]; omega) hv
    obtain ⟨d, hd⟩ : ∃ d : Nat, s.getD n 0 = d := ⟨(s.getD n 0).toNat, by omega⟩
    obtain ⟨r, hr⟩ : ∃ r : Nat, x.getD n 0 = r := ⟨(x.getD n 0).toNat, by omega⟩
    rw [hd, hr] at hx
    refine ⟨q * d + r, ?_, ?_⟩
    · rw [es, prE_snoc, hd]
      have : ((q : Int) + 1) * d ≤ prE (s.take n) * d := Int.mul_le_mul_of_nonneg_right (by omega) (by omega)
      rw [Int.add_mul] at this
      push_cast
      omega
    · rw [es, ex, hd, hr, unrF_qr _ _ _ _ (by omega), hu]
theorem unr_ix {s : List Int} (hs : inE s) (hp : ∀ i, i < s.length → 1 ≤ s.getD i 0) (k : Nat) : vIx s (unrF s (k : Int)) :=
  ⟨unrF_len _ _, fun i hi => unrF_bd hp (by omega) hi⟩
def offP (v : Vi) (x : List Int) : Nat → Int
  | 0 => v.b
  | m + 1 => offP v x m + x.getD m 0 * v.st.getD m 0
theorem mul_bd {x s : Int} (h1 : 0 ≤ x ∧ x ≤ 60) (h2 : -60 ≤ s ∧ s ≤ 60) : -3600 ≤ x * s ∧ x * s ≤ 3600 := by
  have b1 : x * s ≤ x * 60 := Int.mul_le_mul_of_nonneg_left h2.2 h1.1
  have b2 : x * (-60) ≤ x * s := Int.mul_le_mul_of_nonneg_left h2.1 h1.1
  omega
theorem offW_P {v : Vi} {x : List Int} (hb : 0 ≤ v.b ∧ v.b ≤ 60) (hs : ∀ m, -60 ≤ v.st.getD m 0 ∧ v.st.getD m 0 ≤ 60) (hx : ∀ m, 0 ≤ x.getD m 0 ∧ x.getD m 0 ≤ 60) : ∀ m, m ≤ 4 → offW v x m = offP v x m ∧ -(60 + 3600 * (m : Int)) ≤ offP v x m ∧ offP v x m ≤ 60 + 3600 * (m : Int)
  | 0, _ => ⟨rfl, by unfold offP; omega, by unfold offP; omega⟩
  | m + 1, hm => by
    obtain ⟨e, l1, l2⟩ := offW_P hb hs hx m (by omega)
    have hb := mul_bd (hx m) (hs m)
    have e2 : offW v x (m + 1) = offP v x (m + 1) := by
      rw [offW, offP, e, wrap_in (show -9223372036854775808 ≤ x.getD m 0 * v.st.getD m 0 ∧ x.getD m 0 * v.st.getD m 0 ≤ 9223372036854775807 by omega), wrap_in (by omega)]
    refine ⟨e2, ?_, ?_⟩
    · rw [offP]; push_cast; omega
    · rw [offP]; push_cast; omega
theorem st_bd {v : Vi} (h : viewOK v = true) (m : Nat) : -60 ≤ v.st.getD m 0 ∧ v.st.getD m 0 ≤ 60 := by
  by_cases hm : m < v.st.length
  · exact (viewOK_iff.1 h).2.2.1 _ (gmem hm)
  · rw [List.getD_eq_getElem?_getD, List.getElem?_eq_none (by omega)]; simp
theorem ix_bd {s x : List Int} (hs : inE s) (h : vIx s x) (m : Nat) : 0 ≤ x.getD m 0 ∧ x.getD m 0 ≤ 60 := by
  by_cases hm : m < s.length
  · have := h.2 m hm
    have := hs _ (gmem hm)
    omega
  · rw [List.getD_eq_getElem?_getD, List.getElem?_eq_none (by have := h.1; omega)]; simp
theorem offW_ix {v : Vi} (h : viewOK v = true) {x : List Int} (hx : vIx v.sh x) : offW v x v.sh.length = offP v x v.sh.length := by
  obtain ⟨k1, k2, k3, k4, k5⟩ := viewOK_iff.1 h
  obtain ⟨s1, s2, s3, s4, s5⟩ := shape_facts k1
  exact (offW_P k4 (st_bd h) (ix_bd s2 hx) _ s1).1
theorem offP_mem {v : Vi} (h : viewOK v = true) {x : List Int} (hx : vIx v.sh x) : offP v x v.sh.length ∈ offF v := by
  obtain ⟨k1, k2, k3, k4, k5⟩ := viewOK_iff.1 h
  obtain ⟨s1, s2, s3, s4, s5⟩ := shape_facts k1
  obtain ⟨k, hk, hu⟩ := rank_ex _ _ _ rfl hx
  rw [← offW_ix h hx]
  unfold offF
  rw [List.mem_map]
  exact ⟨k, List.mem_range.2 (by omega), by rw [hu]⟩
theorem offP_bd {v : Vi} (h : viewOK v = true) {x : List Int} (hx : vIx v.sh x) : 0 ≤ offP v x v.sh.length ∧ offP v x v.sh.length < 60 :=
  (viewOK_iff.1 h).2.2.2.2 _ (offP_mem h hx)
theorem shape_posV {s : List Int} (h : shapeOK s = true) (hz : ¬ prodW s = 0) : ∀ i, i < s.length → 1 ≤ s.getD i 0 := by
  have := shape_facts h
  exact shape_pos h (k := 0) (by omega)
theorem mem_offF {v : Vi} (h : viewOK v = true) {y : Int} : y ∈ offF v ↔ ∃ x, vIx v.sh x ∧ y = offP v x v.sh.length := by
  constructor
  · intro hy
    unfold offF at hy
    obtain ⟨k, hk, rfl⟩ := List.mem_map.1 hy
    have hk := List.mem_range.1 hk
    obtain ⟨k1, k2, k3, k4, k5⟩ := viewOK_iff.1 h
    have hx := unr_ix (shape_facts k1).2.1 (shape_pos k1 hk) k
    exact ⟨_, hx, offW_ix h hx⟩
  · rintro ⟨x, hx, rfl⟩
    exact offP_mem h hx
theorem getD_set_eq {l : List Int} {d : Nat} {y : Int} (h : d < l.length) : (l.set d y).getD d 0 = y := by simp [h]
theorem getD_set_ne {l : List Int} {d m : Nat} {y : Int} (h : m ≠ d) : (l.set d y).getD m 0 = l.getD m 0 := by
  simp [List.getD_eq_getElem?_getD, List.getElem?_set, Ne.symm h]
theorem offP_set {v : Vi} {x : List Int} {d : Nat} (hd : d < x.length) (y : Int) : ∀ m, offP v (x.set d y) m = offP v x m + if d < m then (y - x.getD d 0) * v.st.getD d 0 else 0
  | 0 => by simp [offP]
  | m + 1 => by
    rw [offP, offP, offP_set hd y m]
    by_cases hm : m = d
    · subst hm
      rw [getD_set_eq hd, if_neg (by omega), if_pos (by omega), Int.sub_mul]; omega
    · rw [getD_set_ne hm]
      by_cases h2 : d < m
      · rw [if_pos h2, if_pos (by omega)]; omega
      · rw [if_neg h2, if_neg (by omega)]; omega
theorem offP_cut {v : Vi} {x : List Int} {d : Nat} (hd : d < v.st.length) (b s : Int) (sh : List Int) : ∀ m, offP ⟨b, sh, v.st.set d s⟩ x m = offP v x m + (b - v.b) + if d < m then x.getD d 0 * (s - v.st.getD d 0) else 0
  | 0 => by simp only [offP]; rw [if_neg (Nat.not_lt_zero _)]; omega
  | m + 1 => by
    rw [offP, offP, offP_cut hd b s sh m]
    show _ + x.getD m 0 * (v.st.set d s).getD m 0 = _
    by_cases hm : m = d
    · subst hm
      rw [getD_set_eq hd, if_neg (by omega), if_pos (by omega), Int.mul_sub]; omega
    · rw [getD_set_ne hm]
      by_cases h2 : d < m
      · rw [if_pos h2, if_pos (by omega)]; omega
      · rw [if_neg h2, if_neg (by omega)]; omega
def isAP (I : List Int) : Prop := ∀ j, j < I.length → I.getD j 0 = I.getD 0 0 + (j : Int) * (I.getD 1 0 - I.getD 0 0)
def slcG (v : Vi) (d : Nat) (I : List Int) : Vi := ⟨if 0 < I.length then v.b + v.st.getD d 0 * I.getD 0 0 else v.b, v.sh.set d I.length, v.st.set d (if 1 < I.length then v.st.getD d 0 * (I.getD 1 0 - I.getD 0 0) else 0)⟩
def slcF (v : Vi) (d : Nat) (I : List Int) : Vi := tidyF (slcG v d I)
theorem slc_sh (v : Vi) (d : Nat) (I : List Int) : (slcF v d I).sh = v.sh.set d I.length := by
  unfold slcF tidyF
  split <;> rfl
theorem slc_vix {v : Vi} {d : Nat} {I x : List Int} (hd : d < v.sh.length) (hI : ∀ y ∈ I, 0 ≤ y ∧ y < v.sh.getD d 0) (hx : vIx (v.sh.set d I.length) x) : vIx v.sh (x.set d (I.getD (x.getD d 0).toNat 0)) := by
  obtain ⟨h1, h2⟩ := hx
  rw [List.length_set] at h1 h2
  refine ⟨by rw [List.length_set]; exact h1, fun i hi => ?_⟩
  have := h2 i hi
  by_cases hm : i = d
  · subst hm
    rw [getD_set_eq hi] at this
    rw [getD_set_eq (by omega)]
    exact hI _ (gmem (by omega))
  · rw [getD_set_ne hm] at this
    rw [getD_set_ne hm]
    exact this
theorem slc_off {v : Vi} {d : Nat} {I x : List Int} (hd : d < v.sh.length) (hst : v.st.length = v.sh.length) (hap : isAP I) (hx : vIx (v.sh.set d I.length) x) : offP (slcG v d I) x v.sh.length = offP v (x.set d (I.getD (x.getD d 0).toNat 0)) v.sh.length := by
  obtain ⟨h1, h2⟩ := hx
  rw [List.length_set] at h1 h2
  have hxd := h2 d hd
  rw [getD_set_eq hd] at hxd
  unfold slcG
  rw [offP_cut (by omega), offP_set (by omega), if_pos hd, if_pos hd, if_pos (by omega)]
  obtain ⟨j, hj⟩ : ∃ j : Nat, x.getD d 0 = j := ⟨(x.getD d 0).toNat, by omega⟩
  rw [hj] at hxd ⊢
  rw [Int.toNat_natCast, hap j (by omega)]
  by_cases h1 : 1 < I.length
  · rw [if_pos h1]
    generalize v.st.getD d 0 = s
    generalize I.getD 0 0 = a
    generalize I.getD 1 0 = c
    generalize (j : Int) = t
    grind
  · rw [if_neg h1]
    obtain rfl : j = 0 := by omega
    generalize v.st.getD d 0 = s
    generalize I.getD 0 0 = a
    simp [Int.mul_comm, Int.add_assoc]
    omega
end Go.Proofs.YtkmnepmnjpdpkaaGreatDoor
namespace Go.Proofs.YtkmnepmnjpdpkaaGreatDoor
open Go Go.Ev Go.RowKit Go.Ev.Enc Go.Pl

theorem prE_set : ∀ {s : List Int} {d : Nat} {y : Int}, inE s → 0 ≤ y → y ≤ s.getD d 0 → d < s.length → prE (s.set d y) ≤ prE s
  | x :: r, 0, y, hs, h0, hy, _ => by
    have hr : inE r := fun z hz => hs z (by simp [hz])
    have h1 := prE_nn hr
    show y * prE r ≤ x * prE r
    exact Int.mul_le_mul_of_nonneg_right hy h1
  | x :: r, d + 1, y, hs, h0, hy, hd => by
    have hr : inE r := fun z hz => hs z (by simp [hz])
    have := prE_set (s := r) (d := d) (y := y) hr h0 hy (by simpa using hd)
    have hx := hs x (by simp)
    show x * prE (r.set d y) ≤ x * prE r
    exact Int.mul_le_mul_of_nonneg_left this hx.1
theorem shapeOK_iff {s : List Int} : shapeOK s = true ↔ s.length ≤ 4 ∧ inE s ∧ prE s ≤ 60 := by
  constructor
  · intro h
    obtain ⟨s1, s2, s3, s4, s5⟩ := shape_facts h
    exact ⟨s1, s2, by omega⟩
  · rintro ⟨h1, h2, h3⟩
    have := prodW_eq h2 (by omega)
    unfold shapeOK inExt
    simp only [Bool.and_eq_true, decide_eq_true_eq, List.all_eq_true]
    exact ⟨⟨h1, h2⟩, by omega⟩
theorem shape_set {s : List Int} {d : Nat} {y : Int} (h : shapeOK s = true) (h0 : 0 ≤ y) (hy : y ≤ s.getD d 0) (hd : d < s.length) : shapeOK (s.set d y) = true := by
  obtain ⟨h1, h2, h3⟩ := shapeOK_iff.1 h
  refine shapeOK_iff.2 ⟨by rw [List.length_set]; exact h1, fun x hx => ?_, Int.le_trans (prE_set h2 h0 hy hd) h3⟩
  rcases List.mem_or_eq_of_mem_set hx with hx | rfl
  · exact h2 x hx
  · have := h2 _ (gmem hd); omega
theorem offP_zero {v : Vi} {x : List Int} (hx : ∀ m, x.getD m 0 = 0) : ∀ m, offP v x m = v.b
  | 0 => rfl
  | m + 1 => by rw [offP, offP_zero hx m, hx m]; omega
theorem rep_0 (n m : Nat) : (List.replicate n (0 : Int)).getD m 0 = 0 := by
  by_cases h : m < n <;> simp [h]
theorem set_ix {s : List Int} (hp : ∀ i, i < s.length → 1 ≤ s.getD i 0) {d : Nat} {y : Int} (h : 0 ≤ y ∧ y < s.getD d 0) : vIx s ((List.replicate s.length 0).set d y) := by
  refine ⟨by simp, fun i hi => ?_⟩
  by_cases hm : i = d
  · subst hm
    rw [getD_set_eq (by simpa using hi)]; exact h
  · rw [getD_set_ne hm, rep_0]; have := hp i hi; omega
theorem offP_one {v : Vi} {d : Nat} (hd : d < v.sh.length) (y : Int) : offP v ((List.replicate v.sh.length 0).set d y) v.sh.length = v.b + v.st.getD d 0 * y := by
  rw [offP_set (by simpa using hd), if_pos hd, offP_zero (rep_0 _), rep_0, Int.sub_zero, Int.mul_comm]
theorem slc_ok {v : Vi} {d : Nat} {I : List Int} (h : viewOK v = true) (hd : d < v.sh.length) (hI : ∀ y ∈ I, 0 ≤ y ∧ y < v.sh.getD d 0) (hl : (I.length : Int) ≤ v.sh.getD d 0) (hap : isAP I) : viewOK (slcF v d I) = true := by
  obtain ⟨k1, k2, k3, k4, k5⟩ := viewOK_iff.1 h
  have hsh := shape_set k1 (y := (I.length : Int)) (by omega) hl hd
  unfold slcF tidyF
  by_cases hz : prodW (slcG v d I).sh = 0
  · rw [if_pos hz]
    refine viewOK_iff.2 ⟨hsh, by simp, fun x hx => ?_, by dsimp only; omega, fun x hx => ?_⟩
    · have := (List.mem_replicate.1 hx).2
      omega
    · rw [offF_zero (v := ⟨0, _, _⟩) hz] at hx
      simp at hx
  · rw [if_neg hz]
    have hp := shape_posV hsh hz
    have hN := hp d (by rw [List.length_set]; exact hd)
    rw [getD_set_eq hd] at hN
    have hpv : ∀ i, i < v.sh.length → 1 ≤ v.sh.getD i 0 := fun i hi => by
      by_cases hm : i = d
      · subst hm; omega
      · have := hp i (by rw [List.length_set]; exact hi)
        rw [getD_set_ne hm] at this
        exact this
    have b0 := offP_bd h (set_ix hpv (hI _ (gmem (l := I) (d := 0) (by omega))))
    rw [offP_one hd] at b0
    have hst : ∀ x ∈ (slcG v d I).st, -60 ≤ x ∧ x ≤ 60 := fun x hx => by
      rcases List.mem_or_eq_of_mem_set hx with hx | rfl
      · exact k3 x hx
      · split
        · rename_i h1
          have b1 := offP_bd h (set_ix hpv (hI _ (gmem (l := I) (d := 1) (by omega))))
          rw [offP_one hd] at b1
          rw [Int.mul_sub]; omega
        · omega
    have hb : 0 ≤ (slcG v d I).b ∧ (slcG v d I).b ≤ 60 := by
      unfold slcG
      dsimp only
      rw [if_pos (by omega)]; omega
    have hstl : ∀ m, -60 ≤ (slcG v d I).st.getD m 0 ∧ (slcG v d I).st.getD m 0 ≤ 60 := fun m => by
      by_cases hm : m < (slcG v d I).st.length
      · exact hst _ (gmem hm)
      · rw [List.getD_eq_getElem?_getD, List.getElem?_eq_none (by omega)]; simp
    have hs' := shape_facts hsh
    refine viewOK_iff.2 ⟨hsh, by simp [slcG, k2], hst, hb, fun x hx => ?_⟩
    unfold offF at hx
    obtain ⟨k, hk, rfl⟩ := List.mem_map.1 hx
    have hix := unr_ix hs'.2.1 hp k
    have e := (offW_P hb hstl (ix_bd hs'.2.1 hix) v.sh.length (shape_facts k1).1).1
    have e2 : (slcG v d I).sh.length = v.sh.length := by simp [slcG]
    rw [e2]
    show 0 ≤ offW (slcG v d I) (unrF (v.sh.set d I.length) (k : Int)) v.sh.length ∧ offW (slcG v d I) (unrF (v.sh.set d I.length) (k : Int)) v.sh.length < 60
    rw [e, slc_off hd k2 hap hix]
    exact offP_bd h (slc_vix hd hI hix)
theorem slc_cell {v : Vi} {d : Nat} {I x : List Int} (h : viewOK v = true) (hd : d < v.sh.length) (hap : isAP I) (hx : vIx (v.sh.set d I.length) x) (hz : ¬ prodW (v.sh.set d I.length) = 0) : offP (slcF v d I) x v.sh.length = offP v (x.set d (I.getD (x.getD d 0).toNat 0)) v.sh.length := by
  unfold slcF tidyF
  rw [if_neg (show ¬ prodW (slcG v d I).sh = 0 from hz)]
  exact slc_off hd (viewOK_iff.1 h).2.1 hap hx
theorem slc_mem {v : Vi} {d : Nat} {I : List Int} (h : viewOK v = true) (hd : d < v.sh.length) (hI : ∀ y ∈ I, 0 ≤ y ∧ y < v.sh.getD d 0) (hl : (I.length : Int) ≤ v.sh.getD d 0) (hap : isAP I) {y : Int} (hy : y ∈ offF (slcF v d I)) : y ∈ offF v := by
  obtain ⟨x, hx, rfl⟩ := (mem_offF (slc_ok h hd hI hl hap)).1 hy
  rw [slc_sh] at hx
  by_cases hz : prodW (v.sh.set d I.length) = 0
  · rw [offF_zero (by rw [slc_sh]; exact hz)] at hy
    simp at hy
  · rw [slc_sh, List.length_set, slc_cell h hd hap hx hz]
    exact offP_mem h (slc_vix hd hI hx)
theorem lineF_cons (x s : Int) (m : Nat) : lineF x s (m + 1) = x :: lineF (x + s) s m := by
  unfold lineF
  rw [List.range_succ_eq_map, List.map_cons, List.map_map]
  congr 1
  · simp
  · refine List.map_congr_left fun k _ => ?_
    simp only [Function.comp]
    push_cast
    rw [Int.add_mul]; omega
theorem numL_ap (z s : Int) : ∀ n x, ∃ N, N ≤ n ∧ numL z s n x = lineF x s N
  | 0, x => ⟨0, Nat.le_refl _, rfl⟩
  | n + 1, x => by
    unfold numL
    split
    · obtain ⟨N, hN, e⟩ := numL_ap z s n (x + s)
      exact ⟨N + 1, by omega, by rw [e, lineF_cons]⟩
    · exact ⟨0, by omega, rfl⟩
theorem numF_ap (r : Rg) : ∃ N, numF r = lineF r.a r.s N := by
  obtain ⟨N, _, h⟩ := numL_ap r.z r.s (distR r.z r.s r.a) r.a
  exact ⟨N, h⟩
theorem line_ap (a s : Int) (N : Nat) : isAP (lineF a s N) := by
  intro j hj
  rw [lineF_len] at hj
  rw [lineF_at hj, lineF_at (show 0 < N by omega)]
  by_cases h : 1 < N
  · rw [lineF_at h]
    push_cast
    simp only [Int.zero_mul, Int.one_mul, Int.add_zero]
    rw [show a + s - a = s by omega]
  · obtain rfl : j = 0 := by omega
    simp
theorem line_nodup {a s : Int} {N : Nat} (hs : s ≠ 0) : (lineF a s N).Nodup := by
  rw [List.nodup_iff_pairwise_ne, List.pairwise_iff_getElem]
  intro i j hi hj hij
  rw [lineF_len] at hi hj
  have e1 := lineF_at (b := a) (s := s) hi
  have e2 := lineF_at (b := a) (s := s) hj
  rw [List.getD_eq_getElem?_getD, List.getElem?_eq_getElem (by rw [lineF_len]; exact hi), Option.getD_some] at e1
  rw [List.getD_eq_getElem?_getD, List.getElem?_eq_getElem (by rw [lineF_len]; exact hj), Option.getD_some] at e2
  rw [e1, e2]
  intro h
  have : (i : Int) = (j : Int) := Int.eq_of_mul_eq_mul_right hs (by omega)
  omega
theorem numL_line {z s : Int} : ∀ (N : Nat) (x : Int), (∀ k : Nat, k < N → goesOn z s (x + (k : Int) * s)) → ¬ goesOn z s (x + (N : Int) * s) → numL z s (distR z s x) x = lineF x s N
  | 0, x, _, h => by
    rw [numF_off (by simpa using h)]; rfl
  | N + 1, x, h, h' => by
    rw [numF_on (by simpa using h 0 (by omega)), lineF_cons]
    congr 1
    refine numL_line N (x + s) (fun k hk => ?_) ?_
    · have := h (k + 1) (by omega)
      push_cast at this
      rw [Int.add_mul] at this
      rwa [show x + s + (k : Int) * s = x + ((k : Int) * s + 1 * s) by omega]
    · push_cast at h'
      rw [Int.add_mul] at h'
      rwa [show x + s + (N : Int) * s = x + ((N : Int) * s + 1 * s) by omega]
theorem mul_le_s {i k : Nat} {s : Int} (hs : 0 ≤ s) (h : i ≤ k) : (i : Int) * s ≤ (k : Int) * s := Int.mul_le_mul_of_nonneg_right (by omega) hs
theorem nrm_line {a s : Int} {N : Nat} (hs : s ≠ 0) : numF (nrmF (lineF a s N)) = lineF a s N := by
  unfold nrmF
  rw [lineF_len]
  by_cases h0 : N = 0
  · subst h0; rw [if_pos rfl]; rfl
  · rw [if_neg h0]
    by_cases h1 : N = 1
    · subst h1
      rw [if_pos rfl, lineF_at (by omega)]
      show numL _ 1 (distR _ 1 _) _ = _
      rw [numL_line 1 _ (fun k hk => by obtain rfl : k = 0 := by omega
                                        unfold goesOn; simp; omega) (by unfold goesOn; simp)]
      simp [lineF]
    · rw [if_neg h1, lineF_at (by omega), lineF_at (by omega), lineF_at (by omega)]
      have e : a + ((1 : Nat) : Int) * s - (a + ((0 : Nat) : Int) * s) = s := by simp; omega
      have e0 : a + ((0 : Nat) : Int) * s = a := by simp
      rw [e, e0]
      obtain ⟨M, rfl⟩ : ∃ M, N = M + 1 := ⟨N - 1, by omega⟩
      rw [Nat.add_sub_cancel]
      rcases Int.lt_or_gt_of_ne hs with h | h
      · rw [if_pos h]
        refine numL_line (M + 1) a (fun k hk => ?_) ?_
        · have := mul_le_s (s := -s) (by omega) (show k ≤ M by omega)
          rw [Int.mul_neg, Int.mul_neg] at this
          refine .inr ⟨h, ?_⟩
          show a + (M : Int) * s - 1 < a + (k : Int) * s
          omega
        · push_cast
          rw [Int.add_mul]
          unfold goesOn
          omega
      · rw [if_neg (by omega)]
        refine numL_line (M + 1) a (fun k hk => ?_) ?_
        · have := mul_le_s (s := s) (by omega) (show k ≤ M by omega)
          refine .inl ⟨h, ?_⟩
          show a + (k : Int) * s < a + (M : Int) * s + 1
          omega
        · push_cast
          rw [Int.add_mul]
          unfold goesOn
          omega
theorem bnd_pos {n i s : Int} (hn : 0 ≤ n) (hs : ¬ s < 0) : 0 ≤ bndF n i s ∧ bndF n i s ≤ n := by
  unfold bndF
  simp only [if_neg hs]
  split <;> split <;> (try split) <;> omega
theorem bnd_neg {n i s : Int} (hn : 0 ≤ n) (hs : s < 0) : -1 ≤ bndF n i s ∧ bndF n i s ≤ n - 1 := by
  unfold bndF
  simp only [if_pos hs]
  split <;> split <;> (try split) <;> omega
theorem ind_rng {n : Int} {s : Sl} (hn : 0 ≤ n) : ∀ y ∈ indF n s, 0 ≤ y ∧ y < n := fun y hy => by
  have := numL_in _ _ _ hy
  by_cases hs : s.s < 0
  · have h1 := bnd_neg (i := s.f) hn hs
    have h2 := bnd_neg (i := s.t) hn hs
    unfold indR at this
    simp only [if_pos hs] at this
    split at this <;> split at this <;> omega
  · have h1 := bnd_pos (i := s.f) hn hs
    have h2 := bnd_pos (i := s.t) hn hs
    unfold indR at this
    simp only [if_neg hs] at this
    split at this <;> split at this <;> omega
theorem ind_line (n : Int) (s : Sl) : ∃ a N, indF n s = lineF a s.s N := by
  obtain ⟨N, h⟩ := numF_ap (indR n s)
  exact ⟨_, N, h⟩
theorem ind_ap (n : Int) (s : Sl) : isAP (indF n s) := by
  obtain ⟨a, N, h⟩ := ind_line n s
  rw [h]; exact line_ap _ _ _
theorem ind_len {n : Int} {s : Sl} (hn : 0 ≤ n) (hs : s.s ≠ 0) : ((indF n s).length : Int) ≤ n := by
  obtain ⟨a, N, h⟩ := ind_line n s
  have := sub_len (B := indF n s) (A := upV n.toNat) (by rw [h]; exact line_nodup hs) fun x hx => by
    rw [upV_mem]
    have := ind_rng hn x hx
    omega
  rw [upV_len] at this
  omega
theorem slOK_s {s : Sl} (h : slOK s = true) : s.s ≠ 0 := by
  unfold slOK at h
  simp only [Bool.and_eq_true, Bool.not_eq_true', beq_eq_false_iff_ne] at h
  exact h.2.2.2.1
theorem cut_slc {v : Vi} {d : Nat} {s : Sl} (h : viewOK v = true) (hd : d < v.sh.length) (hs : slOK s = true) : cutF v d s = slcF v d (indF (v.sh.getD d 0) s) := by
  obtain ⟨k1, k2, k3, k4, k5⟩ := viewOK_iff.1 h
  have hn := dim_at h hd
  obtain ⟨a, N, hI⟩ := ind_line (v.sh.getD d 0) s
  have hin := indF_in (n := v.sh.getD d 0) (s := s) hn
  have hsb := slOK_b hs
  have hst := st_bd h d
  unfold cutF slcF
  congr 1
  rw [hI] at hin ⊢
  have hnl := nrm_line (a := a) (N := N) (slOK_s hs)
  unfold cutG slcG
  rw [hnl, lineF_len]
  have hk : ∀ k, k < N → -1 ≤ a + (k : Int) * s.s ∧ a + (k : Int) * s.s ≤ 100 := fun k hk => by
    have := hin _ (gmem (show k < (lineF a s.s N).length by rw [lineF_len]; exact hk))
    rw [lineF_at hk] at this
    exact this
  have hm : ∀ x : Int, -200 ≤ x → x ≤ 200 → -9223372036854775808 ≤ x * v.st.getD d 0 ∧ x * v.st.getD d 0 ≤ 9223372036854775807 := fun x h1 h2 => by
    have b1 : (x + 200) * v.st.getD d 0 ≤ (x + 200) * 60 := Int.mul_le_mul_of_nonneg_left hst.2 (by omega)
    have b2 : (x + 200) * (-60) ≤ (x + 200) * v.st.getD d 0 := Int.mul_le_mul_of_nonneg_left hst.1 (by omega)
    rw [Int.add_mul x 200 (v.st.getD d 0)] at b1 b2
    omega
  by_cases h0 : N = 0
  · subst h0
    rw [if_pos (show (0 : Nat) ≤ 1 by omega), if_neg (show ¬ (0 : Nat) < 0 by omega), if_neg (show ¬ (1 : Nat) < 0 by omega)]
    have e : (nrmF (lineF a s.s 0)).a = 0 := rfl
    rw [e, Int.zero_mul, show IntKind.i64.wrap 0 = 0 from rfl, Int.add_zero, wrap_in (by omega)]
  · have ea : (nrmF (lineF a s.s N)).a = (lineF a s.s N).getD 0 0 := by
      unfold nrmF
      rw [lineF_len, if_neg h0]
      split <;> rfl
    have g0 := hk 0 (by omega)
    have e0 : (lineF a s.s N).getD 0 0 = a := by rw [lineF_at (by omega)]; simp
    rw [if_pos (show 0 < N by omega), ea, e0]
    simp only [Int.ofNat_zero, Int.zero_mul, Int.add_zero] at g0
    have hma := hm a (by omega) (by omega)
    have b1 : (a + 1) * v.st.getD d 0 ≤ (a + 1) * 60 := Int.mul_le_mul_of_nonneg_left hst.2 (by omega)
    have b2 : (a + 1) * (-60) ≤ (a + 1) * v.st.getD d 0 := Int.mul_le_mul_of_nonneg_left hst.1 (by omega)
    rw [Int.add_mul a 1 (v.st.getD d 0)] at b1 b2
    rw [wrap_in hma, wrap_in (by omega), Int.mul_comm a]
    by_cases h1 : N = 1
    · subst h1
      rw [if_pos (show (1 : Nat) ≤ 1 by omega), if_neg (show ¬ (1 : Nat) < 1 by omega)]
    · rw [if_neg (show ¬ N ≤ 1 by omega), if_pos (show 1 < N by omega)]
      have es : (nrmF (lineF a s.s N)).s = s.s := by
        unfold nrmF
        rw [lineF_len, if_neg h0, if_neg h1, lineF_at (by omega), lineF_at (by omega)]
        simp only []
        push_cast
        omega
      have e1 : (lineF a s.s N).getD 1 0 = a + s.s := by rw [lineF_at (by omega)]; simp
      have g1 := hk 1 (by omega)
      simp only [Int.ofNat_one, Int.one_mul] at g1
      rw [es, e1, wrap_in (hm s.s (by omega) (by omega)), Int.mul_comm s.s, show a + s.s - a = s.s by omega]
theorem cut_made {v : Vi} {d : Nat} {s : Sl} (h : viewOK v = true) (hd : d < v.sh.length) (hs : slOK s = true) : madeF (cutF v d s) = some (slcF v d (indF (v.sh.getD d 0) s)) := by
  have hn := dim_at h hd
  rw [cut_slc h hd hs]
  unfold madeF
  rw [if_pos (slc_ok h hd (ind_rng hn.1) (ind_len hn.1 (slOK_s hs)) (ind_ap _ _))]
end Go.Proofs.YtkmnepmnjpdpkaaGreatDoor
namespace Go.Proofs.YtkmnepmnjpdpkaaGreatDoor
open Go Go.Ev Go.RowKit Go.Ev.Enc Go.Pl

def gAreCells (n : Int) : Option Bool := gd True (inR n 0 60)
theorem gAreCells_eq (n : Int) : gAreCells n = some (inR n 0 60) := rfl
set_option maxHeartbeats 4000000 in
set_option maxRecDepth 100000 in
theorem spec_areCells {Sg : FuncId → Option (List AV → Option AV)} (hS : Sound Tryz.prog Sg) : ∀ a r, F1 gAreCells a = some r → CSpec Tryz.prog 60 a r := by
  refine F1_spec ?_
  intro n r hr
  obtain ⟨-, rfl⟩ := gd_some hr
  refine CSpec.intro Tryz.func60 rfl (own _) (vc3_sound Tryz.pf hS hS _ _ _ ?_)
  by_cases h1 : 0 ≤ n
  · by_cases h2 : n ≤ 60
    · repeat' (first | with_reducible first | refine kI (by kernel_rfl) ?_ | refine kN (by kernel_rfl) ?_ | simp -implicitDefEqProofs (disch := omega) only [go_sem, Nat.reduceAdd, Nat.reduceSub, reduceCtorEq, Nat.reduceLT, Nat.reduceLeDiff, Nat.reduceEqDiff, ↓reduceIte, List.take_of_length_le, if_pos, if_neg, cnE, cnV, Tryz.ntmps60, Tryz.results60,  h1, h2, inR])
    · repeat' (first | with_reducible first | refine kI (by kernel_rfl) ?_ | refine kN (by kernel_rfl) ?_ | simp -implicitDefEqProofs (disch := omega) only [go_sem, Nat.reduceAdd, Nat.reduceSub, reduceCtorEq, Nat.reduceLT, Nat.reduceLeDiff, Nat.reduceEqDiff, ↓reduceIte, List.take_of_length_le, if_pos, if_neg, cnE, cnV, Tryz.ntmps60, Tryz.results60,  h1, h2, inR])
  · repeat' (first | with_reducible first | refine kI (by kernel_rfl) ?_ | refine kN (by kernel_rfl) ?_ | simp -implicitDefEqProofs (disch := omega) only [go_sem, Nat.reduceAdd, Nat.reduceSub, reduceCtorEq, Nat.reduceLT, Nat.reduceLeDiff, Nat.reduceEqDiff, ↓reduceIte, List.take_of_length_le, if_pos, if_neg, cnE, cnV, Tryz.ntmps60, Tryz.results60,  h1, inR])
def gIsVal (n : Int) : Option Bool := gd True (inR n 0 255)
theorem gIsVal_eq (n : Int) : gIsVal n = some (inR n 0 255) := rfl
set_option maxHeartbeats 4000000 in
set_option maxRecDepth 100000 in
theorem spec_isValue {Sg : FuncId → Option (List AV → Option AV)} (hS : Sound Tryz.prog Sg) : ∀ a r, F1 gIsVal a = some r → CSpec Tryz.prog 145 a r := by
  refine F1_spec ?_
  intro n r hr
  obtain ⟨-, rfl⟩ := gd_some hr
  refine CSpec.intro Tryz.func145 rfl (own _) (vc3_sound Tryz.pf hS hS _ _ _ ?_)
  by_cases h1 : 0 ≤ n
  · by_cases h2 : n ≤ 255
    · repeat' (first | with_reducible first | refine kI (by kernel_rfl) ?_ | refine kN (by kernel_rfl) ?_ | simp -implicitDefEqProofs (disch := omega) only [go_sem, Nat.reduceAdd, Nat.reduceSub, reduceCtorEq, Nat.reduceLT, Nat.reduceLeDiff, Nat.reduceEqDiff, ↓reduceIte, List.take_of_length_le, if_pos, if_neg, cnE, cnV, Tryz.ntmps145, Tryz.results145,  h1, h2, inR])
    · repeat' (first | with_reducible first | refine kI (by kernel_rfl) ?_ | refine kN (by kernel_rfl) ?_ | simp -implicitDefEqProofs (disch := omega) only [go_sem, Nat.reduceAdd, Nat.reduceSub, reduceCtorEq, Nat.reduceLT, Nat.reduceLeDiff, Nat.reduceEqDiff, ↓reduceIte, List.take_of_length_le, if_pos, if_neg, cnE, cnV, Tryz.ntmps145, Tryz.results145,  h1, h2, inR])
  · repeat' (first | with_reducible first | refine kI (by kernel_rfl) ?_ | refine kN (by kernel_rfl) ?_ | simp -implicitDefEqProofs (disch := omega) only [go_sem, Nat.reduceAdd, Nat.reduceSub, reduceCtorEq, Nat.reduceLT, Nat.reduceLeDiff, Nat.reduceEqDiff, ↓reduceIte, List.take_of_length_le, if_pos, if_neg, cnE, cnV, Tryz.ntmps145, Tryz.results145,  h1, inR])
def notVal (x : Int) : Bool := !inR x 0 255
set_option maxHeartbeats 2000000 in
set_option maxRecDepth 100000 in
theorem isp_isMemory1 {Sg : FuncId → Option (List AV → Option AV)} (hS : Sound Tryz.prog Sg) (hv : Sg 145 = some (F1 gIsVal)) (x : Int) (L : List Blk) : ISpec Tryz.prog 144 [i64 x] L (fun r L' => r = .bool (notVal x) ∧ L' = L) := by
  refine ISpec.intro Tryz.func144 rfl (vc_sound Tryz.pf hS _ _ _ ?_)
  have q := gIsVal_eq x
  unfold notVal
  cases e : inR x 0 255 with
  | false =>
    rw [e] at q
    repeat' (first | with_reducible first | refine kI (by kernel_rfl) ?_ | refine kN (by kernel_rfl) ?_ | simp -implicitDefEqProofs (disch := omega) only [go_sem, Nat.reduceAdd, Nat.reduceSub, reduceCtorEq, Nat.reduceLT, Nat.reduceLeDiff, Nat.reduceEqDiff, ↓reduceIte, List.take_of_length_le, if_pos, if_neg, cnE, cnV, Tryz.ntmps144, Tryz.results144,  hv, q])
    try exact ⟨rfl, rfl⟩
  | true =>
    rw [e] at q
    repeat' (first | with_reducible first | refine kI (by kernel_rfl) ?_ | refine kN (by kernel_rfl) ?_ | simp -implicitDefEqProofs (disch := omega) only [go_sem, Nat.reduceAdd, Nat.reduceSub, reduceCtorEq, Nat.reduceLT, Nat.reduceLeDiff, Nat.reduceEqDiff, ↓reduceIte, List.take_of_length_le, if_pos, if_neg, cnE, cnV, Tryz.ntmps144, Tryz.results144,  hv, q])
    try exact ⟨rfl, rfl⟩
def memOK (m : List Int) : Bool := decide (m.length ≤ 60) && m.all fun x => inR x 0 255
theorem memOK_iff {m : List Int} : memOK m = true ↔ m.length ≤ 60 ∧ ∀ x ∈ m, 0 ≤ x ∧ x ≤ 255 := by
  unfold memOK inR
  simp only [Bool.and_eq_true, decide_eq_true_eq, List.all_eq_true]
theorem any_val {l : List Int} : (!l.any notVal) = l.all fun x => inR x 0 255 := by
  rw [Bool.eq_iff_iff, Bool.not_eq_true', List.any_eq_false, List.all_eq_true]
  unfold notVal
  simp
def gMem (m : List Int) : Option Bool := gd (m.length < 4294967296) (memOK m)
theorem gMem_eq {m : List Int} (h : m.length < 4294967296) : gMem m = some (memOK m) := gd_eq h
theorem isMem_can : CanCall Tryz.prog 144 := ⟨_, Tryz.func144, rfl, rfl⟩
set_option maxHeartbeats 4000000 in
set_option maxRecDepth 100000 in
theorem spec_isMemory {Sg : FuncId → Option (List AV → Option AV)} (hS : Sound Tryz.prog Sg) (hv : Sg 145 = some (F1 gIsVal)) (hc : Sg 108 = none) (hf : Sg 146 = none) : ∀ a r, F1 gMem a = some r → CSpec Tryz.prog 107 a r := by
  refine F1_spec ?_
  intro m r hr
  obtain ⟨h, rfl⟩ := gd_some hr
  refine CSpec.intro Tryz.func107 rfl (own _) (vc3_sound Tryz.pf hS hS _ _ _ ?_)
  unfold memOK
  by_cases h8 : m.length ≤ 60
  · have h8' : (m.length : Int) ≤ 60 := by omega
    rw [decide_eq_true h8, ← any_val]
    repeat' (first | with_reducible first | refine kI (by kernel_rfl) ?_ | refine kN (by kernel_rfl) ?_ | simp -implicitDefEqProofs (disch := omega) only [go_sem, Nat.reduceAdd, Nat.reduceSub, reduceCtorEq, Nat.reduceLT, Nat.reduceLeDiff, Nat.reduceEqDiff, ↓reduceIte, List.take_of_length_le, if_pos, if_neg, cnE, cnV, Tryz.ntmps107, Tryz.results107,  h8', hc, opQ_none])
    refine InlK_intro rfl rfl can_ContainsFunc ((ispec_ContainsFunc hS hf isMem_can (fun x L => isp_isMemory1 hS hv x L) 0 m h _).mono ?_)
    rintro r L' ⟨rfl, rfl⟩
    repeat' (first | with_reducible first | refine kI (by kernel_rfl) ?_ | refine kN (by kernel_rfl) ?_ | simp -implicitDefEqProofs (disch := omega) only [go_sem, Nat.reduceAdd, Nat.reduceSub, reduceCtorEq, Nat.reduceLT, Nat.reduceLeDiff, Nat.reduceEqDiff, ↓reduceIte, List.take_of_length_le, if_pos, if_neg, cnE, cnV, Tryz.ntmps107, Tryz.results107])
    try rfl
  · have h8' : ¬ (m.length : Int) ≤ 60 := by omega
    rw [decide_eq_false h8]
    repeat' (first | with_reducible first | refine kI (by kernel_rfl) ?_ | refine kN (by kernel_rfl) ?_ | simp -implicitDefEqProofs (disch := omega) only [go_sem, Nat.reduceAdd, Nat.reduceSub, reduceCtorEq, Nat.reduceLT, Nat.reduceLeDiff, Nat.reduceEqDiff, ↓reduceIte, List.take_of_length_le, if_pos, if_neg, cnE, cnV, Tryz.ntmps107, Tryz.results107,  h8'])
    try rfl
set_option maxHeartbeats 4000000 in
set_option maxRecDepth 100000 in
theorem spec_validMemory {Sg : FuncId → Option (List AV → Option AV)} (hS : Sound Tryz.prog Sg) (hv : Sg 114 = some (F3 gAllIn)) : ∀ a r, F1 gMem a = some r → CSpec Tryz.prog 112 a r := by
  refine F1_spec ?_
  intro m r hr
  obtain ⟨h, rfl⟩ := gd_some hr
  refine CSpec.intro Tryz.func112 rfl (own _) (vc3_sound Tryz.pf hS hS _ _ _ ?_)
  have q := gAllIn_eq h 0 255
  unfold memOK
  by_cases h8 : m.length ≤ 60
  · have h8' : (m.length : Int) ≤ 60 := by omega
    rw [decide_eq_true h8]
    repeat' (first | with_reducible first | refine kI (by kernel_rfl) ?_ | refine kN (by kernel_rfl) ?_ | simp -implicitDefEqProofs (disch := omega) only [go_sem, Nat.reduceAdd, Nat.reduceSub, reduceCtorEq, Nat.reduceLT, Nat.reduceLeDiff, Nat.reduceEqDiff, ↓reduceIte, List.take_of_length_le, if_pos, if_neg, cnE, cnV, Tryz.ntmps112, Tryz.results112,  h8', hv, q])
    try rfl
  · have h8' : ¬ (m.length : Int) ≤ 60 := by omega
    rw [decide_eq_false h8]
    repeat' (first | with_reducible first | refine kI (by kernel_rfl) ?_ | refine kN (by kernel_rfl) ?_ | simp -implicitDefEqProofs (disch := omega) only [go_sem, Nat.reduceAdd, Nat.reduceSub, reduceCtorEq, Nat.reduceLT, Nat.reduceLeDiff, Nat.reduceEqDiff, ↓reduceIte, List.take_of_length_le, if_pos, if_neg, cnE, cnV, Tryz.ntmps112, Tryz.results112,  h8'])
    try rfl
set_option maxHeartbeats 2000000 in
set_option maxRecDepth 100000 in
theorem isp_IndexFuncC {Sg : FuncId → Option (List AV → Option AV)} (hS : Sound Tryz.prog Sg) {g : FuncId} {p : Int → Bool} {bb : Nat} (hg : CanCall Tryz.prog g) (L : List Blk) (hp : ∀ x, ISpec Tryz.prog g [i64 x, .ptr bb 1 0 0] L fun r L' => r = .bool (p x) ∧ L' = L) (tag : Nat) (l : List Int) (hl : l.length < 4294967296) : ISpec Tryz.prog 146 [ints tag l, .fn g [.ptr bb 1 0 0]] L (fun r L' => r = i64 (plcF l p) ∧ L' = L) := by
  refine ISpec.intro Tryz.func146 rfl (vc_sound Tryz.pf hS _ _ _ ?_)
  repeat' (first | with_reducible first | refine kI (by kernel_rfl) ?_ | refine kN (by kernel_rfl) ?_ | simp -implicitDefEqProofs (disch := omega) only [go_sem, Nat.reduceAdd, Nat.reduceSub, reduceCtorEq, Nat.reduceLT, Nat.reduceLeDiff, Nat.reduceEqDiff, ↓reduceIte, List.take_of_length_le, if_pos, if_neg, cnE, cnV, Tryz.ntmps146, Tryz.results146])
  refine LoopQ.mix (fun t0 L0 nn ss => ∃ (k : Nat) (_ : Unit), (∃ x : Nat → AV, ss = ⟨mixL 0 (.k :: .k :: .k :: .k :: .s :: .s :: .k :: .k :: .v (i64 (k : Nat)) :: .s :: .s :: .s :: .s :: .s :: .s :: .s :: .s :: .s :: .s :: []) t0 x, L0⟩) ∧ (k ≤ l.length) ∧ (∀ i, i < k → p (l.getD i 0) = false) ∧ nn = l.length - k) ?_ ?_
  · exact ⟨_, ⟨0, (), mixI rfl, Nat.zero_le _, fun i hi => absurd hi (Nat.not_lt_zero _), rfl⟩⟩
  · rintro I0 hI0 nn s ⟨k, _, ⟨x, rfl⟩, g1, g2, rfl⟩
    by_cases hlt : k < l.length
    · have hki : (k : Int) < (l.length : Int) := by omega
      repeat' (first | with_reducible first | refine kI (by kernel_rfl) ?_ | refine kN (by kernel_rfl) ?_ | simp -implicitDefEqProofs (disch := omega) only [go_sem, Nat.reduceAdd, Nat.reduceSub, reduceCtorEq, Nat.reduceLT, Nat.reduceLeDiff, Nat.reduceEqDiff, ↓reduceIte, List.take_of_length_le, if_pos, if_neg, cnE, cnV, Tryz.ntmps146, Tryz.results146,  hki, opQ_none])
      refine InlK_intro rfl rfl hg ((hp _).mono ?_)
      rintro r L' ⟨rfl, rfl⟩
      cases hb : p (l.getD k 0) with
      | true =>
        repeat' (first | with_reducible first | refine kI (by kernel_rfl) ?_ | refine kN (by kernel_rfl) ?_ | simp -implicitDefEqProofs (disch := omega) only [go_sem, Nat.reduceAdd, Nat.reduceSub, reduceCtorEq, Nat.reduceLT, Nat.reduceLeDiff, Nat.reduceEqDiff, ↓reduceIte, List.take_of_length_le, if_pos, if_neg, cnE, cnV, Tryz.ntmps146, Tryz.results146,  plcF_eq hlt hb g2])
      | false =>
        repeat' (first | with_reducible first | refine kI (by kernel_rfl) ?_ | refine kN (by kernel_rfl) ?_ | simp -implicitDefEqProofs (disch := omega) only [go_sem, Nat.reduceAdd, Nat.reduceSub, reduceCtorEq, Nat.reduceLT, Nat.reduceLeDiff, Nat.reduceEqDiff, ↓reduceIte, List.take_of_length_le, if_pos, if_neg, cnE, cnV, Tryz.ntmps146, Tryz.results146])
        exact ⟨l.length - (k + 1), by omega, hI0 _ _ ⟨k + 1, (), mixI rfl, hlt, fun i hi => if h : i = k then by rw [h]; exact hb else g2 i (by omega), rfl⟩⟩
    · obtain rfl : k = l.length := by omega
      repeat' (first | with_reducible first | refine kI (by kernel_rfl) ?_ | refine kN (by kernel_rfl) ?_ | simp -implicitDefEqProofs (disch := omega) only [go_sem, Nat.reduceAdd, Nat.reduceSub, reduceCtorEq, Nat.reduceLT, Nat.reduceLeDiff, Nat.reduceEqDiff, ↓reduceIte, List.take_of_length_le, if_pos, if_neg, cnE, cnV, Tryz.ntmps146, Tryz.results146,  plcF_none g2])
theorem can_IndexFunc : CanCall Tryz.prog 146 := ⟨_, Tryz.func146, rfl, rfl⟩
set_option maxHeartbeats 2000000 in
set_option maxRecDepth 100000 in
theorem isp_ContainsFuncC {Sg : FuncId → Option (List AV → Option AV)} (hS : Sound Tryz.prog Sg) (hc : Sg 146 = none) {g : FuncId} {p : Int → Bool} {bb : Nat} (hg : CanCall Tryz.prog g) (L : List Blk) (hp : ∀ x, ISpec Tryz.prog g [i64 x, .ptr bb 1 0 0] L fun r L' => r = .bool (p x) ∧ L' = L) (tag : Nat) (l : List Int) (hl : l.length < 4294967296) : ISpec Tryz.prog 108 [ints tag l, .fn g [.ptr bb 1 0 0]] L (fun r L' => r = .bool (l.any p) ∧ L' = L) := by
  refine ISpec.intro Tryz.func108 rfl (vc_sound Tryz.pf hS _ _ _ ?_)
  repeat' (first | with_reducible first | refine kI (by kernel_rfl) ?_ | refine kN (by kernel_rfl) ?_ | simp -implicitDefEqProofs (disch := omega) only [go_sem, Nat.reduceAdd, Nat.reduceSub, reduceCtorEq, Nat.reduceLT, Nat.reduceLeDiff, Nat.reduceEqDiff, ↓reduceIte, List.take_of_length_le, if_pos, if_neg, cnE, cnV, Tryz.ntmps108, Tryz.results108,  hc, opQ_none])
  refine InlK_intro rfl rfl can_IndexFunc ((isp_IndexFuncC hS hg L hp tag l hl).mono ?_)
  rintro r L' ⟨rfl, rfl⟩
  have e : decide (0 ≤ plcF l p) = l.any p := by rw [Bool.eq_iff_iff, decide_eq_true_eq, plcF_nonneg]
  repeat' (first | with_reducible first | refine kI (by kernel_rfl) ?_ | refine kN (by kernel_rfl) ?_ | simp -implicitDefEqProofs (disch := omega) only [go_sem, Nat.reduceAdd, Nat.reduceSub, reduceCtorEq, Nat.reduceLT, Nat.reduceLeDiff, Nat.reduceEqDiff, ↓reduceIte, List.take_of_length_le, if_pos, if_neg, cnE, cnV, Tryz.ntmps108, Tryz.results108,  e])
set_option maxHeartbeats 2000000 in
set_option maxRecDepth 100000 in
theorem isp_fitsIn1 {Sg : FuncId → Option (List AV → Option AV)} (hS : Sound Tryz.prog Sg) (x n : Int) (bb : Nat) (L : List Blk) (hb : L[bb]? = some ⟨1, [.int .i64 n]⟩) : ISpec Tryz.prog 118 [i64 x, .ptr bb 1 0 0] L (fun r L' => r = .bool (decide (n ≤ x)) ∧ L' = L) := by
  refine ISpec.intro Tryz.func118 rfl (vc_sound Tryz.pf hS _ _ _ ?_)
  by_cases h : n ≤ x
  · repeat' (first | with_reducible first | refine kI (by kernel_rfl) ?_ | refine kN (by kernel_rfl) ?_ | simp -implicitDefEqProofs (disch := omega) only [go_sem, Nat.reduceAdd, Nat.reduceSub, reduceCtorEq, Nat.reduceLT, Nat.reduceLeDiff, Nat.reduceEqDiff, ↓reduceIte, List.take_of_length_le, if_pos, if_neg, cnE, cnV, Tryz.ntmps118, Tryz.results118,  hb, h])
    try exact ⟨rfl, rfl⟩
  · repeat' (first | with_reducible first | refine kI (by kernel_rfl) ?_ | refine kN (by kernel_rfl) ?_ | simp -implicitDefEqProofs (disch := omega) only [go_sem, Nat.reduceAdd, Nat.reduceSub, reduceCtorEq, Nat.reduceLT, Nat.reduceLeDiff, Nat.reduceEqDiff, ↓reduceIte, List.take_of_length_le, if_pos, if_neg, cnE, cnV, Tryz.ntmps118, Tryz.results118,  hb, h])
    try exact ⟨rfl, rfl⟩
def fitB (v : Vi) (n : Int) : Bool := (offF v).all fun x => decide (x < n)
def gFitI (v : Vi) (n : Int) : Option Bool := gd (shapeOK v.sh = true ∧ v.st.length = v.sh.length) (fitB v n)
theorem gFitI_eq {v : Vi} (h : shapeOK v.sh = true ∧ v.st.length = v.sh.length) (n : Int) : gFitI v n = some (fitB v n) := gd_eq h
theorem any_fit {l : List Int} {n : Int} : (!l.any fun x => decide (n ≤ x)) = l.all fun x => decide (x < n) := by
  rw [Bool.eq_iff_iff, Bool.not_eq_true', List.any_eq_false, List.all_eq_true]
  simp
theorem fit1_can : CanCall Tryz.prog 118 := ⟨_, Tryz.func118, rfl, rfl⟩
set_option maxHeartbeats 4000000 in
set_option maxRecDepth 100000 in
theorem spec_fitsIn {Sg : FuncId → Option (List AV → Option AV)} (hS : Sound Tryz.prog Sg) (ho : Sg 116 = some (F1 gOffsets)) (hc : Sg 108 = none) (hf : Sg 146 = none) : ∀ a r, F2 gFitI a = some r → CSpec Tryz.prog 69 a r := by
  refine F2_spec ?_
  intro v n r hr
  obtain ⟨⟨h1, h2⟩, rfl⟩ := gd_some hr
  refine CSpec.intro Tryz.func69 rfl (own _) (vc3_sound Tryz.pf hS hS _ _ _ ?_)
  have q1 := gOffsets_eq (v := v) ⟨h1, h2⟩
  have h6 := offF_60 h1
  unfold fitB
  rw [← any_fit]
  generalize offF v = A at *
  repeat' (first | with_reducible first | refine kI (by kernel_rfl) ?_ | refine kN (by kernel_rfl) ?_ | simp -implicitDefEqProofs (disch := omega) only [go_sem, Nat.reduceAdd, Nat.reduceSub, reduceCtorEq, Nat.reduceLT, Nat.reduceLeDiff, Nat.reduceEqDiff, ↓reduceIte, List.take_of_length_le, if_pos, if_neg, cnE, cnV, Tryz.ntmps69, Tryz.results69,  ho, q1, hc, opQ_none])
  refine InlK_intro rfl rfl can_ContainsFunc ((isp_ContainsFuncC hS hf fit1_can _ (fun x => isp_fitsIn1 hS x n 1 _ rfl) 1 A (by omega)).mono ?_)
  rintro r L' ⟨rfl, rfl⟩
  repeat' (first | with_reducible first | refine kI (by kernel_rfl) ?_ | refine kN (by kernel_rfl) ?_ | simp -implicitDefEqProofs (disch := omega) only [go_sem, Nat.reduceAdd, Nat.reduceSub, reduceCtorEq, Nat.reduceLT, Nat.reduceLeDiff, Nat.reduceEqDiff, ↓reduceIte, List.take_of_length_le, if_pos, if_neg, cnE, cnV, Tryz.ntmps69, Tryz.results69])
def fitS (v : Vi) (n : Int) : Bool := (offF v).all fun x => inR x 0 (n - 1)
theorem fitS_eq {v : Vi} (h : viewOK v = true) (n : Int) : fitS v n = fitB v n := by
  have hc := (viewOK_iff.1 h).2.2.2.2
  unfold fitS fitB
  rw [Bool.eq_iff_iff, List.all_eq_true, List.all_eq_true]
  constructor
  · intro h x hx
    have := h x hx
    unfold inR at this
    simp only [Bool.and_eq_true, decide_eq_true_eq] at this ⊢
    omega
  · intro h x hx
    have := h x hx
    have := hc x hx
    unfold inR
    simp only [Bool.and_eq_true, decide_eq_true_eq] at *
    omega
def gFitS (v : Vi) (n : Int) : Option Bool := gd ((shapeOK v.sh = true ∧ v.st.length = v.sh.length) ∧ (-1000 ≤ n ∧ n ≤ 4294967296)) (fitS v n)
theorem gFitS_eq {v : Vi} {n : Int} (h : (shapeOK v.sh = true ∧ v.st.length = v.sh.length) ∧ (-1000 ≤ n ∧ n ≤ 4294967296)) : gFitS v n = some (fitS v n) := gd_eq h
set_option maxHeartbeats 4000000 in
set_option maxRecDepth 100000 in
theorem spec_fits {Sg : FuncId → Option (List AV → Option AV)} (hS : Sound Tryz.prog Sg) (ho : Sg 143 = some (F1 gOffsets)) (ha : Sg 114 = some (F3 gAllIn)) : ∀ a r, F2 gFitS a = some r → CSpec Tryz.prog 149 a r := by
  refine F2_spec ?_
  intro v n r hr
  obtain ⟨⟨⟨h1, h2⟩, h3, h4⟩, rfl⟩ := gd_some hr
  refine CSpec.intro Tryz.func149 rfl (own _) (vc3_sound Tryz.pf hS hS _ _ _ ?_)
  have q1 := gOffsets_eq (v := v) ⟨h1, h2⟩
  have h6 := offF_60 h1
  have q2 := gAllIn_eq (l := offF v) (by omega) 0 (n - 1)
  have hw : IntKind.i64.wrap (n - 1) = n - 1 := wrap_in (by omega)
  unfold fitS
  repeat' (first | with_reducible first | refine kI (by kernel_rfl) ?_ | refine kN (by kernel_rfl) ?_ | simp -implicitDefEqProofs (disch := omega) only [go_sem, Nat.reduceAdd, Nat.reduceSub, reduceCtorEq, Nat.reduceLT, Nat.reduceLeDiff, Nat.reduceEqDiff, ↓reduceIte, List.take_of_length_le, if_pos, if_neg, cnE, cnV, Tryz.ntmps149, Tryz.results149,  ho, q1, hw, ha, q2])
def holdB (m : List Int) (v : Vi) : Bool := memOK m && (viewOK v && fitB v m.length)
def memB (m : List Int) (v : Vi) : Prop := m.length < 4294967296 ∧ viB v
instance (m : List Int) (v : Vi) : Decidable (memB m v) := by unfold memB; infer_instance
def gHolds (m : List Int) (v : Vi) : Option Bool := gd (memB m v) (holdB m v)
theorem gHolds_eq {m : List Int} {v : Vi} (h : memB m v) : gHolds m v = some (holdB m v) := gd_eq h
set_option maxHeartbeats 4000000 in
set_option maxRecDepth 100000 in
theorem spec_sees {Sg : FuncId → Option (List AV → Option AV)} (hS : Sound Tryz.prog Sg) (hm : Sg 112 = some (F1 gMem)) (hv : Sg 148 = some (F1 gValidV)) (hf : Sg 149 = some (F2 gFitS)) : ∀ a r, F2 gHolds a = some r → CSpec Tryz.prog 199 a r := by
  refine F2_spec ?_
  intro m v r hr
  obtain ⟨⟨h1, h2⟩, rfl⟩ := gd_some hr
  refine CSpec.intro Tryz.func199 rfl (own _) (vc3_sound Tryz.pf hS hS _ _ _ ?_)
  have q1 := gMem_eq h1
  have q2 := gValidV_eq h2
  unfold holdB
  cases e1 : memOK m with
  | false =>
    rw [e1] at q1
    repeat' (first | with_reducible first | refine kI (by kernel_rfl) ?_ | refine kN (by kernel_rfl) ?_ | simp -implicitDefEqProofs (disch := omega) only [go_sem, Nat.reduceAdd, Nat.reduceSub, reduceCtorEq, Nat.reduceLT, Nat.reduceLeDiff, Nat.reduceEqDiff, ↓reduceIte, List.take_of_length_le, if_pos, if_neg, cnE, cnV, Tryz.ntmps199, Tryz.results199,  hm, q1])
    try rfl
  | true =>
    rw [e1] at q1
    cases e2 : viewOK v with
    | false =>
      rw [e2] at q2
      repeat' (first | with_reducible first | refine kI (by kernel_rfl) ?_ | refine kN (by kernel_rfl) ?_ | simp -implicitDefEqProofs (disch := omega) only [go_sem, Nat.reduceAdd, Nat.reduceSub, reduceCtorEq, Nat.reduceLT, Nat.reduceLeDiff, Nat.reduceEqDiff, ↓reduceIte, List.take_of_length_le, if_pos, if_neg, cnE, cnV, Tryz.ntmps199, Tryz.results199,  hm, q1, hv, q2])
      try rfl
    | true =>
      rw [e2] at q2
      have q3 := gFitS_eq (v := v) (n := (m.length : Int)) ⟨vOK e2, by omega, by omega⟩
      have q4 := fitS_eq e2 (m.length : Int)
      rw [q4] at q3
      repeat' (first | with_reducible first | refine kI (by kernel_rfl) ?_ | refine kN (by kernel_rfl) ?_ | simp -implicitDefEqProofs (disch := omega) only [go_sem, Nat.reduceAdd, Nat.reduceSub, reduceCtorEq, Nat.reduceLT, Nat.reduceLeDiff, Nat.reduceEqDiff, ↓reduceIte, List.take_of_length_le, if_pos, if_neg, cnE, cnV, Tryz.ntmps199, Tryz.results199,  hm, q1, hv, q2, hf, q3])
      try rfl
set_option maxHeartbeats 4000000 in
set_option maxRecDepth 100000 in
theorem spec_canHold {Sg : FuncId → Option (List AV → Option AV)} (hS : Sound Tryz.prog Sg) (hm : Sg 107 = some (F1 gMem)) (hv : Sg 68 = some (F1 gValidV)) (hf : Sg 69 = some (F2 gFitI)) : ∀ a r, F2 gHolds a = some r → CSpec Tryz.prog 163 a r := by
  refine F2_spec ?_
  intro m v r hr
  obtain ⟨⟨h1, h2⟩, rfl⟩ := gd_some hr
  refine CSpec.intro Tryz.func163 rfl (own _) (vc3_sound Tryz.pf hS hS _ _ _ ?_)
  have q1 := gMem_eq h1
  have q2 := gValidV_eq h2
  unfold holdB
  cases e1 : memOK m with
  | false =>
    rw [e1] at q1
    repeat' (first | with_reducible first | refine kI (by kernel_rfl) ?_ | refine kN (by kernel_rfl) ?_ | simp -implicitDefEqProofs (disch := omega) only [go_sem, Nat.reduceAdd, Nat.reduceSub, reduceCtorEq, Nat.reduceLT, Nat.reduceLeDiff, Nat.reduceEqDiff, ↓reduceIte, List.take_of_length_le, if_pos, if_neg, cnE, cnV, Tryz.ntmps163, Tryz.results163,  hm, q1])
    try rfl
  | true =>
    rw [e1] at q1
    cases e2 : viewOK v with
    | false =>
      rw [e2] at q2
      repeat' (first | with_reducible first | refine kI (by kernel_rfl) ?_ | refine kN (by kernel_rfl) ?_ | simp -implicitDefEqProofs (disch := omega) only [go_sem, Nat.reduceAdd, Nat.reduceSub, reduceCtorEq, Nat.reduceLT, Nat.reduceLeDiff, Nat.reduceEqDiff, ↓reduceIte, List.take_of_length_le, if_pos, if_neg, cnE, cnV, Tryz.ntmps163, Tryz.results163,  hm, q1, hv, q2])
      try rfl
    | true =>
      rw [e2] at q2
      have q3 := gFitI_eq (vOK e2) (m.length : Int)
      have q4 := fitS_eq e2 (m.length : Int)
      skip
      repeat' (first | with_reducible first | refine kI (by kernel_rfl) ?_ | refine kN (by kernel_rfl) ?_ | simp -implicitDefEqProofs (disch := omega) only [go_sem, Nat.reduceAdd, Nat.reduceSub, reduceCtorEq, Nat.reduceLT, Nat.reduceLeDiff, Nat.reduceEqDiff, ↓reduceIte, List.take_of_length_le, if_pos, if_neg, cnE, cnV, Tryz.ntmps163, Tryz.results163,  hm, q1, hv, q2, hf, q3])
      try rfl
end Go.Proofs.YtkmnepmnjpdpkaaGreatDoor
namespace Go.Proofs.YtkmnepmnjpdpkaaGreatDoor
open Go Go.Ev Go.RowKit Go.Ev.Enc Go.Pl

end Go.Proofs.YtkmnepmnjpdpkaaGreatDoor
namespace Go.Proofs.YtkmnepmnjpdpkaaGreatDoor
open Go Go.Ev Go.RowKit Go.Ev.Enc Go.Pl

end Go.Proofs.YtkmnepmnjpdpkaaGreatDoor
namespace Go.Proofs.YtkmnepmnjpdpkaaGreatDoor
open Go Go.Ev Go.RowKit Go.Ev.Enc Go.Pl

def stoT (m A V : List Int) : Nat → List Int
  | 0 => m
  | k + 1 => (stoT m A V k).set (A.getD k 0).toNat (V.getD k 0)
theorem stoT_len (m A V : List Int) : ∀ k, (stoT m A V k).length = m.length
  | 0 => rfl
  | k + 1 => by rw [stoT, List.length_set, stoT_len m A V k]
theorem stoT_val {m A V : List Int} (P : Int → Prop) (hm : ∀ x ∈ m, P x) : ∀ k, k ≤ V.length → (∀ x ∈ V, P x) → ∀ x ∈ stoT m A V k, P x
  | 0, _, _ => hm
  | k + 1, hk, hV => fun x hx => by
    rcases List.mem_or_eq_of_mem_set hx with hx | rfl
    · exact stoT_val P hm k (by omega) hV x hx
    · exact hV _ (gmem (by omega))
def inM (A : List Int) (n : Nat) : Prop := ∀ x ∈ A, 0 ≤ x ∧ x < n
theorem fit_in {m : List Int} {v : Vi} (h : holdB m v = true) : memOK m = true ∧ viewOK v = true ∧ inM (offF v) m.length := by
  unfold holdB at h
  simp only [Bool.and_eq_true] at h
  refine ⟨h.1, h.2.1, fun x hx => ?_⟩
  have h1 := (viewOK_iff.1 h.2.1).2.2.2.2 x hx
  have h2 := of_decide_eq_true (List.all_eq_true.1 h.2.2 x hx)
  exact ⟨h1.1, h2⟩
theorem sto_mem {m A V : List Int} (hm : memOK m = true) (hV : ∀ x ∈ V, 0 ≤ x ∧ x ≤ 255) {k : Nat} (hk : k ≤ V.length) : memOK (stoT m A V k) = true := by
  obtain ⟨h1, h2⟩ := memOK_iff.1 hm
  exact memOK_iff.2 ⟨by rw [stoT_len]; exact h1, stoT_val _ h2 k hk hV⟩
theorem in_at {A : List Int} {n k : Nat} (h : inM A n) (hk : k < A.length) : ∃ j : Nat, A.getD k 0 = j ∧ j < n := by
  have := h _ (gmem hk)
  exact ⟨(A.getD k 0).toNat, by omega, by omega⟩
def gLoadI (m : List Int) (v : Vi) : Option (List Int) := gd (holdB m v = true) (tkn m (offF v))
theorem gLoadI_eq {m : List Int} {v : Vi} (h : holdB m v = true) : gLoadI m v = some (tkn m (offF v)) := gd_eq h
set_option maxHeartbeats 4000000 in
set_option maxRecDepth 100000 in
theorem spec_loadView {Sg : FuncId → Option (List AV → Option AV)} (hS : Sound Tryz.prog Sg) (ho : Sg 116 = some (F1 gOffsets)) (ht : Sg 166 = some (F2 gTakenOf)) : ∀ a r, F2 gLoadI a = some r → CSpec Tryz.prog 135 a r := by
  refine F2_spec ?_
  intro m v r hr
  obtain ⟨h, rfl⟩ := gd_some hr
  refine CSpec.intro Tryz.func135 rfl (own _) (vc3_sound Tryz.pf hS hS _ _ _ ?_)
  obtain ⟨h1, h2, h3⟩ := fit_in h
  have hm := (memOK_iff.1 h1).1
  have h6 := offF_60 (vOK h2).1
  have q1 := gOffsets_eq (vOK h2)
  have q2 := gTakenOf_eq (e := m) (l := offF v) ⟨by omega, fun i hi => h3 _ (gmem hi)⟩
  have hl := tkn_len m (offF v)
  repeat' (first | with_reducible first | refine kI (by kernel_rfl) ?_ | refine kN (by kernel_rfl) ?_ | simp -implicitDefEqProofs (disch := omega) only [go_sem, Nat.reduceAdd, Nat.reduceSub, reduceCtorEq, Nat.reduceLT, Nat.reduceLeDiff, Nat.reduceEqDiff, ↓reduceIte, List.take_of_length_le, if_pos, if_neg, cnE, cnV, Tryz.ntmps135, Tryz.results135,  ho, q1, ht, q2])
def repV (v : Vi) (x : Int) : List Int := List.replicate (offF v).length x
end Go.Proofs.YtkmnepmnjpdpkaaGreatDoor
namespace Go.Proofs.YtkmnepmnjpdpkaaGreatDoor
open Go Go.Ev Go.RowKit Go.Ev.Enc Go.Pl

end Go.Proofs.YtkmnepmnjpdpkaaGreatDoor
