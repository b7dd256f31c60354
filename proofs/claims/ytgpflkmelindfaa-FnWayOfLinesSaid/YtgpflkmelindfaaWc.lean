/- Contracts of functions that the laws of this seat call. -/
import Derived.Test.YtgpflkmelindfaaWb
set_option linter.all false
namespace Go.Proofs.Ytgpflkmelindfaa
open Go Go.Ev Go.RowKit Go.Ev.Enc Go.Pl

/-! ### slices are valid -/
theorem prE_set : ∀ {s : List Int} {d : Nat} {y : Int}, inE s → 0 ≤ y → y ≤ s.getD d 0 → d < s.length → prE (s.set d y) ≤ prE s
  | x :: r, 0, y, hs, h0, hy, _ => by
    have hr : inE r := fun z hz => hs z (by simp [hz])
    have h1 := prE_nn hr
    show y * prE r ≤ x * prE r
    exact Int.mul_le_mul_of_nonneg_right hy h1
  | x :: r, d + 1, y, hs, h0, hy, hd => by
    have hr : inE r := fun z hz => hs z (by simp [hz])
    have := prE_set (s := r) (d := d) (y := y) hr h0 hy (by simpa using hd)
    have hx := hs x (by simp)
    show x * prE (r.set d y) ≤ x * prE r
    exact Int.mul_le_mul_of_nonneg_left this hx.1
theorem shapeOK_iff {s : List Int} : shapeOK s = true ↔ s.length ≤ 4 ∧ inE s ∧ prE s ≤ 60 := by
  constructor
  · intro h
    obtain ⟨s1, s2, s3, s4, s5⟩ := shape_facts h
    exact ⟨s1, s2, by omega⟩
  · rintro ⟨h1, h2, h3⟩
    have := prodW_eq h2 (by omega)
    unfold shapeOK inExt
    simp only [Bool.and_eq_true, decide_eq_true_eq, List.all_eq_true]
    exact ⟨⟨h1, h2⟩, by omega⟩
theorem shape_set {s : List Int} {d : Nat} {y : Int} (h : shapeOK s = true) (h0 : 0 ≤ y) (hy : y ≤ s.getD d 0) (hd : d < s.length) : shapeOK (s.set d y) = true := by
  obtain ⟨h1, h2, h3⟩ := shapeOK_iff.1 h
  refine shapeOK_iff.2 ⟨by rw [List.length_set]; exact h1, fun x hx => ?_, Int.le_trans (prE_set h2 h0 hy hd) h3⟩
  rcases List.mem_or_eq_of_mem_set hx with hx | rfl
  · exact h2 x hx
  · have := h2 _ (gmem hd); omega
theorem offP_zero {v : Vi} {x : List Int} (hx : ∀ m, x.getD m 0 = 0) : ∀ m, offP v x m = v.b
  | 0 => rfl
  | m + 1 => by rw [offP, offP_zero hx m, hx m]; omega
theorem rep_0 (n m : Nat) : (List.replicate n (0 : Int)).getD m 0 = 0 := by
  by_cases h : m < n <;> simp [h]
theorem rep_ix {s : List Int} (hp : ∀ i, i < s.length → 1 ≤ s.getD i 0) : vIx s (List.replicate s.length 0) :=
  ⟨by simp, fun i hi => by rw [rep_0]; have := hp i hi; omega⟩
theorem set_ix {s : List Int} (hp : ∀ i, i < s.length → 1 ≤ s.getD i 0) {d : Nat} {y : Int} (h : 0 ≤ y ∧ y < s.getD d 0) : vIx s ((List.replicate s.length 0).set d y) := by
  refine ⟨by simp, fun i hi => ?_⟩
  by_cases hm : i = d
  · subst hm
    rw [getD_set_eq (by simpa using hi)]; exact h
  · rw [getD_set_ne hm, rep_0]; have := hp i hi; omega
theorem offP_one {v : Vi} {d : Nat} (hd : d < v.sh.length) (y : Int) : offP v ((List.replicate v.sh.length 0).set d y) v.sh.length = v.b + v.st.getD d 0 * y := by
  rw [offP_set (by simpa using hd), if_pos hd, offP_zero (rep_0 _), rep_0, Int.sub_zero, Int.mul_comm]
theorem slc_ok {v : Vi} {d : Nat} {I : List Int} (h : viewOK v = true) (hd : d < v.sh.length) (hI : ∀ y ∈ I, 0 ≤ y ∧ y < v.sh.getD d 0) (hl : (I.length : Int) ≤ v.sh.getD d 0) (hap : isAP I) : viewOK (slcF v d I) = true := by
  obtain ⟨k1, k2, k3, k4, k5⟩ := viewOK_iff.1 h
  have hsh := shape_set k1 (y := (I.length : Int)) (by omega) hl hd
  unfold slcF tidyF
  by_cases hz : prodW (slcG v d I).sh = 0
  · rw [if_pos hz]
    refine viewOK_iff.2 ⟨hsh, by simp, fun x hx => ?_, by dsimp only; omega, fun x hx => ?_⟩
    · have := (List.mem_replicate.1 hx).2
      omega
    · rw [offF_zero (v := ⟨0, _, _⟩) hz] at hx
      simp at hx
  · rw [if_neg hz]
    have hp := shape_posV hsh hz
    have hN := hp d (by rw [List.length_set]; exact hd)
    rw [getD_set_eq hd] at hN
    have hpv : ∀ i, i < v.sh.length → 1 ≤ v.sh.getD i 0 := fun i hi => by
      by_cases hm : i = d
      · subst hm; omega
      · have := hp i (by rw [List.length_set]; exact hi)
        rw [getD_set_ne hm] at this
        exact this
    have b0 := offP_bd h (set_ix hpv (hI _ (gmem (l := I) (d := 0) (by omega))))
    rw [offP_one hd] at b0
    have hst : ∀ x ∈ (slcG v d I).st, -60 ≤ x ∧ x ≤ 60 := fun x hx => by
      rcases List.mem_or_eq_of_mem_set hx with hx | rfl
      · exact k3 x hx
      · split
        · rename_i h1
          have b1 := offP_bd h (set_ix hpv (hI _ (gmem (l := I) (d := 1) (by omega))))
          rw [offP_one hd] at b1
          rw [Int.mul_sub]; omega
        · omega
    have hb : 0 ≤ (slcG v d I).b ∧ (slcG v d I).b ≤ 60 := by
      unfold slcG
      dsimp only
      rw [if_pos (by omega)]; omega
    have hstl : ∀ m, -60 ≤ (slcG v d I).st.getD m 0 ∧ (slcG v d I).st.getD m 0 ≤ 60 := fun m => by
      by_cases hm : m < (slcG v d I).st.length
      · exact hst _ (gmem hm)
      · rw [List.getD_eq_getElem?_getD, List.getElem?_eq_none (by omega)]; simp
    have hs' := shape_facts hsh
    refine viewOK_iff.2 ⟨hsh, by simp [slcG, k2], hst, hb, fun x hx => ?_⟩
    unfold offF at hx
    obtain ⟨k, hk, rfl⟩ := List.mem_map.1 hx
    have hix := unr_ix hs'.2.1 hp k
    have e := (offW_P hb hstl (ix_bd hs'.2.1 hix) v.sh.length (shape_facts k1).1).1
    have e2 : (slcG v d I).sh.length = v.sh.length := by simp [slcG]
    rw [e2]
    show 0 ≤ offW (slcG v d I) (unrF (v.sh.set d I.length) (k : Int)) v.sh.length ∧ offW (slcG v d I) (unrF (v.sh.set d I.length) (k : Int)) v.sh.length < 60
    rw [e, slc_off hd k2 hap hix]
    exact offP_bd h (slc_vix hd hI hix)
theorem slc_cell {v : Vi} {d : Nat} {I x : List Int} (h : viewOK v = true) (hd : d < v.sh.length) (hap : isAP I) (hx : vIx (v.sh.set d I.length) x) (hz : ¬ prodW (v.sh.set d I.length) = 0) : offP (slcF v d I) x v.sh.length = offP v (x.set d (I.getD (x.getD d 0).toNat 0)) v.sh.length := by
  unfold slcF tidyF
  rw [if_neg (show ¬ prodW (slcG v d I).sh = 0 from hz)]
  exact slc_off hd (viewOK_iff.1 h).2.1 hap hx
theorem slc_mem {v : Vi} {d : Nat} {I : List Int} (h : viewOK v = true) (hd : d < v.sh.length) (hI : ∀ y ∈ I, 0 ≤ y ∧ y < v.sh.getD d 0) (hl : (I.length : Int) ≤ v.sh.getD d 0) (hap : isAP I) {y : Int} (hy : y ∈ offF (slcF v d I)) : y ∈ offF v := by
  obtain ⟨x, hx, rfl⟩ := (mem_offF (slc_ok h hd hI hl hap)).1 hy
  rw [slc_sh] at hx
  by_cases hz : prodW (v.sh.set d I.length) = 0
  · rw [offF_zero (by rw [slc_sh]; exact hz)] at hy
    simp at hy
  · rw [slc_sh, List.length_set, slc_cell h hd hap hx hz]
    exact offP_mem h (slc_vix hd hI hx)
/-! ### numbers of a range are a line -/
theorem lineF_cons (x s : Int) (m : Nat) : lineF x s (m + 1) = x :: lineF (x + s) s m := by
  unfold lineF
  rw [List.range_succ_eq_map, List.map_cons, List.map_map]
  congr 1
  · simp
  · refine List.map_congr_left fun k _ => ?_
    simp only [Function.comp]
    push_cast
    rw [Int.add_mul]; omega
theorem numL_ap (z s : Int) : ∀ n x, ∃ N, N ≤ n ∧ numL z s n x = lineF x s N
  | 0, x => ⟨0, Nat.le_refl _, rfl⟩
  | n + 1, x => by
    unfold numL
    split
    · obtain ⟨N, hN, e⟩ := numL_ap z s n (x + s)
      exact ⟨N + 1, by omega, by rw [e, lineF_cons]⟩
    · exact ⟨0, by omega, rfl⟩
theorem numF_ap (r : Rg) : ∃ N, numF r = lineF r.a r.s N := by
  obtain ⟨N, _, h⟩ := numL_ap r.z r.s (distR r.z r.s r.a) r.a
  exact ⟨N, h⟩
theorem line_ap (a s : Int) (N : Nat) : isAP (lineF a s N) := by
  intro j hj
  rw [lineF_len] at hj
  rw [lineF_at hj, lineF_at (show 0 < N by omega)]
  by_cases h : 1 < N
  · rw [lineF_at h]
    push_cast
    simp only [Int.zero_mul, Int.one_mul, Int.add_zero]
    rw [show a + s - a = s by omega]
  · obtain rfl : j = 0 := by omega
    simp
theorem line_nodup {a s : Int} {N : Nat} (hs : s ≠ 0) : (lineF a s N).Nodup := by
  rw [List.nodup_iff_pairwise_ne, List.pairwise_iff_getElem]
  intro i j hi hj hij
  rw [lineF_len] at hi hj
  have e1 := lineF_at (b := a) (s := s) hi
  have e2 := lineF_at (b := a) (s := s) hj
  rw [List.getD_eq_getElem?_getD, List.getElem?_eq_getElem (by rw [lineF_len]; exact hi), Option.getD_some] at e1
  rw [List.getD_eq_getElem?_getD, List.getElem?_eq_getElem (by rw [lineF_len]; exact hj), Option.getD_some] at e2
  rw [e1, e2]
  intro h
  have : (i : Int) = (j : Int) := Int.eq_of_mul_eq_mul_right hs (by omega)
  omega
theorem numL_line {z s : Int} : ∀ (N : Nat) (x : Int), (∀ k : Nat, k < N → goesOn z s (x + (k : Int) * s)) → ¬ goesOn z s (x + (N : Int) * s) → numL z s (distR z s x) x = lineF x s N
  | 0, x, _, h => by
    rw [numF_off (by simpa using h)]; rfl
  | N + 1, x, h, h' => by
    rw [numF_on (by simpa using h 0 (by omega)), lineF_cons]
    congr 1
    refine numL_line N (x + s) (fun k hk => ?_) ?_
    · have := h (k + 1) (by omega)
      push_cast at this
      rw [Int.add_mul] at this
      rwa [show x + s + (k : Int) * s = x + ((k : Int) * s + 1 * s) by omega]
    · push_cast at h'
      rw [Int.add_mul] at h'
      rwa [show x + s + (N : Int) * s = x + ((N : Int) * s + 1 * s) by omega]
theorem mul_le_s {i k : Nat} {s : Int} (hs : 0 ≤ s) (h : i ≤ k) : (i : Int) * s ≤ (k : Int) * s := Int.mul_le_mul_of_nonneg_right (by omega) hs
/-- the normal form has the same numbers -/
theorem nrm_line {a s : Int} {N : Nat} (hs : s ≠ 0) : numF (nrmF (lineF a s N)) = lineF a s N := by
  unfold nrmF
  rw [lineF_len]
  by_cases h0 : N = 0
  · subst h0; rw [if_pos rfl]; rfl
  · rw [if_neg h0]
    by_cases h1 : N = 1
    · subst h1
      rw [if_pos rfl, lineF_at (by omega)]
      show numL _ 1 (distR _ 1 _) _ = _
      rw [numL_line 1 _ (fun k hk => by obtain rfl : k = 0 := by omega
                                        unfold goesOn; simp; omega) (by unfold goesOn; simp)]
      simp [lineF]
    · rw [if_neg h1, lineF_at (by omega), lineF_at (by omega), lineF_at (by omega)]
      have e : a + ((1 : Nat) : Int) * s - (a + ((0 : Nat) : Int) * s) = s := by simp; omega
      have e0 : a + ((0 : Nat) : Int) * s = a := by simp
      rw [e, e0]
      obtain ⟨M, rfl⟩ : ∃ M, N = M + 1 := ⟨N - 1, by omega⟩
      rw [Nat.add_sub_cancel]
      rcases Int.lt_or_gt_of_ne hs with h | h
      · rw [if_pos h]
        refine numL_line (M + 1) a (fun k hk => ?_) ?_
        · have := mul_le_s (s := -s) (by omega) (show k ≤ M by omega)
          rw [Int.mul_neg, Int.mul_neg] at this
          refine .inr ⟨h, ?_⟩
          show a + (M : Int) * s - 1 < a + (k : Int) * s
          omega
        · push_cast
          rw [Int.add_mul]
          unfold goesOn
          omega
      · rw [if_neg (by omega)]
        refine numL_line (M + 1) a (fun k hk => ?_) ?_
        · have := mul_le_s (s := s) (by omega) (show k ≤ M by omega)
          refine .inl ⟨h, ?_⟩
          show a + (k : Int) * s < a + (M : Int) * s + 1
          omega
        · push_cast
          rw [Int.add_mul]
          unfold goesOn
          omega
/-! ### indices of a slice -/
theorem bnd_pos {n i s : Int} (hn : 0 ≤ n) (hs : ¬ s < 0) : 0 ≤ bndF n i s ∧ bndF n i s ≤ n := by
  unfold bndF
  simp only [if_neg hs]
  split <;> split <;> (try split) <;> omega
theorem bnd_neg {n i s : Int} (hn : 0 ≤ n) (hs : s < 0) : -1 ≤ bndF n i s ∧ bndF n i s ≤ n - 1 := by
  unfold bndF
  simp only [if_pos hs]
  split <;> split <;> (try split) <;> omega
theorem ind_rng {n : Int} {s : Sl} (hn : 0 ≤ n) : ∀ y ∈ indF n s, 0 ≤ y ∧ y < n := fun y hy => by
  have := numL_in _ _ _ hy
  by_cases hs : s.s < 0
  · have h1 := bnd_neg (i := s.f) hn hs
    have h2 := bnd_neg (i := s.t) hn hs
    unfold indR at this
    simp only [if_pos hs] at this
    split at this <;> split at this <;> omega
  · have h1 := bnd_pos (i := s.f) hn hs
    have h2 := bnd_pos (i := s.t) hn hs
    unfold indR at this
    simp only [if_neg hs] at this
    split at this <;> split at this <;> omega
theorem ind_line (n : Int) (s : Sl) : ∃ a N, indF n s = lineF a s.s N := by
  obtain ⟨N, h⟩ := numF_ap (indR n s)
  exact ⟨_, N, h⟩
theorem ind_ap (n : Int) (s : Sl) : isAP (indF n s) := by
  obtain ⟨a, N, h⟩ := ind_line n s
  rw [h]; exact line_ap _ _ _
theorem ind_len {n : Int} {s : Sl} (hn : 0 ≤ n) (hs : s.s ≠ 0) : ((indF n s).length : Int) ≤ n := by
  obtain ⟨a, N, h⟩ := ind_line n s
  have := sub_len (B := indF n s) (A := upV n.toNat) (by rw [h]; exact line_nodup hs) fun x hx => by
    rw [upV_mem]
    have := ind_rng hn x hx
    omega
  rw [upV_len] at this
  omega
theorem slOK_s {s : Sl} (h : slOK s = true) : s.s ≠ 0 := by
  unfold slOK at h
  simp only [Bool.and_eq_true, Bool.not_eq_true', beq_eq_false_iff_ne] at h
  exact h.2.2.2.1
/-- what the reference computes -/
theorem cut_slc {v : Vi} {d : Nat} {s : Sl} (h : viewOK v = true) (hd : d < v.sh.length) (hs : slOK s = true) : cutF v d s = slcF v d (indF (v.sh.getD d 0) s) := by
  obtain ⟨k1, k2, k3, k4, k5⟩ := viewOK_iff.1 h
  have hn := dim_at h hd
  obtain ⟨a, N, hI⟩ := ind_line (v.sh.getD d 0) s
  have hin := indF_in (n := v.sh.getD d 0) (s := s) hn
  have hsb := slOK_b hs
  have hst := st_bd h d
  unfold cutF slcF
  congr 1
  rw [hI] at hin ⊢
  have hnl := nrm_line (a := a) (N := N) (slOK_s hs)
  unfold cutG slcG
  rw [hnl, lineF_len]
  have hk : ∀ k, k < N → -1 ≤ a + (k : Int) * s.s ∧ a + (k : Int) * s.s ≤ 100 := fun k hk => by
    have := hin _ (gmem (show k < (lineF a s.s N).length by rw [lineF_len]; exact hk))
    rw [lineF_at hk] at this
    exact this
  have hm : ∀ x : Int, -200 ≤ x → x ≤ 200 → -9223372036854775808 ≤ x * v.st.getD d 0 ∧ x * v.st.getD d 0 ≤ 9223372036854775807 := fun x h1 h2 => by
    have b1 : (x + 200) * v.st.getD d 0 ≤ (x + 200) * 60 := Int.mul_le_mul_of_nonneg_left hst.2 (by omega)
    have b2 : (x + 200) * (-60) ≤ (x + 200) * v.st.getD d 0 := Int.mul_le_mul_of_nonneg_left hst.1 (by omega)
    rw [Int.add_mul x 200 (v.st.getD d 0)] at b1 b2
    omega
  by_cases h0 : N = 0
  · subst h0
    rw [if_pos (show (0 : Nat) ≤ 1 by omega), if_neg (show ¬ (0 : Nat) < 0 by omega), if_neg (show ¬ (1 : Nat) < 0 by omega)]
    have e : (nrmF (lineF a s.s 0)).a = 0 := rfl
    rw [e, Int.zero_mul, show IntKind.i64.wrap 0 = 0 from rfl, Int.add_zero, wrap_in (by omega)]
  · have ea : (nrmF (lineF a s.s N)).a = (lineF a s.s N).getD 0 0 := by
      unfold nrmF
      rw [lineF_len, if_neg h0]
      split <;> rfl
    have g0 := hk 0 (by omega)
    have e0 : (lineF a s.s N).getD 0 0 = a := by rw [lineF_at (by omega)]; simp
    rw [if_pos (show 0 < N by omega), ea, e0]
    simp only [Int.ofNat_zero, Int.zero_mul, Int.add_zero] at g0
    have hma := hm a (by omega) (by omega)
    have b1 : (a + 1) * v.st.getD d 0 ≤ (a + 1) * 60 := Int.mul_le_mul_of_nonneg_left hst.2 (by omega)
    have b2 : (a + 1) * (-60) ≤ (a + 1) * v.st.getD d 0 := Int.mul_le_mul_of_nonneg_left hst.1 (by omega)
    rw [Int.add_mul a 1 (v.st.getD d 0)] at b1 b2
    rw [wrap_in hma, wrap_in (by omega), Int.mul_comm a]
    by_cases h1 : N = 1
    · subst h1
      rw [if_pos (show (1 : Nat) ≤ 1 by omega), if_neg (show ¬ (1 : Nat) < 1 by omega)]
    · rw [if_neg (show ¬ N ≤ 1 by omega), if_pos (show 1 < N by omega)]
      have es : (nrmF (lineF a s.s N)).s = s.s := by
        unfold nrmF
        rw [lineF_len, if_neg h0, if_neg h1, lineF_at (by omega), lineF_at (by omega)]
        simp only []
        push_cast
        omega
      have e1 : (lineF a s.s N).getD 1 0 = a + s.s := by rw [lineF_at (by omega)]; simp
      have g1 := hk 1 (by omega)
      simp only [Int.ofNat_one, Int.one_mul] at g1
      rw [es, e1, wrap_in (hm s.s (by omega) (by omega)), Int.mul_comm s.s, show a + s.s - a = s.s by omega]
theorem cut_made {v : Vi} {d : Nat} {s : Sl} (h : viewOK v = true) (hd : d < v.sh.length) (hs : slOK s = true) : madeF (cutF v d s) = some (slcF v d (indF (v.sh.getD d 0) s)) := by
  have hn := dim_at h hd
  rw [cut_slc h hd hs]
  unfold madeF
  rw [if_pos (slc_ok h hd (ind_rng hn.1) (ind_len hn.1 (slOK_s hs)) (ind_ap _ _))]
end Go.Proofs.Ytgpflkmelindfaa
