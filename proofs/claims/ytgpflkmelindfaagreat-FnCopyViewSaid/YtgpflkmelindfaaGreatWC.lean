/- Contracts of functions on views and memories that the laws of this seat call. -/
import Derived.Test.YtgpflkmelindfaaGreatWB
set_option linter.all false
namespace Go.Proofs.YtgpflkmelindfaaGreat
open Go Go.Ev Go.RowKit Go.Ev.Enc Go.Pl

/-! ### stores and copies, in plain words -/
theorem cell_ne {A : List Int} {n i j : Nat} (hA : inM A n) (hd : diffF A = true) (hi : i < A.length) (hj : j < A.length) (hij : i ≠ j) : (A.getD i 0).toNat ≠ (A.getD j 0).toNat := by
  have h1 := hA _ (gmem hi)
  have h2 := hA _ (gmem hj)
  have hp := List.pairwise_iff_getElem.1 (List.nodup_iff_pairwise_ne.1 (diffF_nodup.1 hd))
  have e1 : A.getD i 0 = A[i] := by simp [hi]
  have e2 : A.getD j 0 = A[j] := by simp [hj]
  have : A.getD i 0 ≠ A.getD j 0 := by
    rw [e1, e2]
    rcases Nat.lt_or_gt_of_ne hij with h | h
    · exact hp i j hi hj h
    · exact fun e => hp j i hj hi h e.symm
  omega
theorem sto_at {m A V : List Int} (hA : inM A m.length) (hd : diffF A = true) {i : Nat} (hi : i < A.length) : (stoT m A V A.length).getD (A.getD i 0).toNat 0 = V.getD i 0 := by
  obtain ⟨p, hp, hpm⟩ := in_at hA hi
  rw [hp, Int.toNat_natCast]
  exact stoT_last hpm (by rw [hp, Int.toNat_natCast]) A.length hi fun t h1 h2 => by
    have := cell_ne hA hd h2 hi (by omega)
    rw [hp, Int.toNat_natCast] at this
    exact this
theorem tkn_sto {m A V : List Int} (hA : inM A m.length) (hd : diffF A = true) (hV : V.length = A.length) : tkn (stoT m A V A.length) A = V :=
  ints_ext (by rw [tkn_len, hV]) fun i hi => by
    rw [tkn_len] at hi
    rw [tkn_atI hi, sto_at hA hd hi]
theorem lat_no {A B : List Int} (h : latB A B A.length = false) {i k : Nat} (hi : i < A.length) (hik : i < k) (hk : k < B.length) : B.getD k 0 ≠ A.getD i 0 := fun e => by
  have := latB_iff.2 ⟨i, hi, k, hik, hk, e⟩
  rw [h] at this
  cases this
theorem ear_no {A B : List Int} (h : earB A B A.length = false) {i k : Nat} (hi : i < A.length) (hik : k < i) (hk : k < B.length) : B.getD k 0 ≠ A.getD i 0 := fun e => by
  have := earB_iff.2 ⟨i, hi, k, hik, hk, e⟩
  rw [h] at this
  cases this
theorem cp_fwd {m A B : List Int} (hA : inM A m.length) (hB : inM B m.length) (hl : B.length = A.length) (h : latB A B A.length = false) : ∀ k, k ≤ A.length → cpT m A B (upV A.length) k = stoT m A (tkn m B) k
  | 0, _ => rfl
  | k + 1, hk => by
    have hkA : k < A.length := by omega
    have hkB : k < B.length := by omega
    rw [cpT, stoT, cp_fwd hA hB hl h k (by omega), upV_at hkA, Int.toNat_natCast, tkn_atI hkB, stoT_out k fun j hj he => ?_]
    have h1 := hA _ (gmem (show j < A.length by omega))
    have h2 := hB _ (gmem hkB)
    exact lat_no h (show j < A.length by omega) hj hkB (by omega)
theorem cpT_out {m A B O : List Int} {i : Nat} : ∀ k, (∀ j, j < k → (A.getD (O.getD j 0).toNat 0).toNat ≠ i) → (cpT m A B O k).getD i 0 = m.getD i 0
  | 0, _ => rfl
  | k + 1, h => by
    rw [cpT, getD_set_ne (Ne.symm (h k (by omega))), cpT_out k fun j hj => h j (by omega)]
theorem chg_cp {m A B O : List Int} (hA : inM A m.length) (hO : inM O A.length) {k : Nat} (hk : k ≤ O.length) : ∀ x ∈ chgF m (cpT m A B O k), x ∈ A := fun x hx => by
  unfold chgF at hx
  split at hx
  · obtain ⟨⟨h0, h1⟩, hne⟩ := mem_chg.1 hx
    apply Classical.byContradiction
    intro hna
    refine hne (cpT_out k fun j hj he => hna ?_).symm
    obtain ⟨i, hi, hiA⟩ := in_at hO (show j < O.length by omega)
    rw [hi, Int.toNat_natCast] at he
    have := hA _ (gmem hiA)
    have e : A.getD i 0 = x := by omega
    rw [← e]; exact gmem hiA
  · simp at hx
/-- from the last one on: what was stored, and what was not -/
theorem cp_bwd_st {m A B : List Int} (hA : inM A m.length) (hB : inM B m.length) (hl : B.length = A.length) (h : earB A B A.length = false) (hd : diffF A = true) : ∀ k, k ≤ A.length →
    (∀ i, (∀ t, A.length - k ≤ t → t < A.length → (A.getD t 0).toNat ≠ i) → (cpT m A B (upV A.length).reverse k).getD i 0 = m.getD i 0) ∧
    ∀ t, A.length - k ≤ t → t < A.length → (cpT m A B (upV A.length).reverse k).getD (A.getD t 0).toNat 0 = m.getD (B.getD t 0).toNat 0
  | 0, _ => ⟨fun _ _ => rfl, fun t h1 h2 => by omega⟩
  | k + 1, hk => by
    obtain ⟨ha, hb⟩ := cp_bwd_st hA hB hl h hd k (by omega)
    obtain ⟨s, hs⟩ : ∃ s, A.length - 1 - k = s := ⟨_, rfl⟩
    have hsA : s < A.length := by omega
    have hsB : s < B.length := by omega
    have hv : (cpT m A B (upV A.length).reverse k).getD (B.getD s 0).toNat 0 = m.getD (B.getD s 0).toNat 0 := ha _ fun t h1 h2 he => by
      have q1 := hA _ (gmem h2)
      have q2 := hB _ (gmem hsB)
      exact ear_no h h2 (show s < t by omega) hsB (by omega)
    have hst : cpT m A B (upV A.length).reverse (k + 1) = (cpT m A B (upV A.length).reverse k).set (A.getD s 0).toNat (m.getD (B.getD s 0).toNat 0) := by
      rw [cpT, upR_at (by omega), hs, Int.toNat_natCast, hv]
    rw [hst]
    refine ⟨fun i hi => ?_, fun t h1 h2 => ?_⟩
    · rw [getD_set_ne (Ne.symm (hi s (by omega) hsA))]
      exact ha i fun t h1 h2 => hi t (by omega) h2
    · by_cases hts : t = s
      · subst hts
        have q1 := hA _ (gmem h2)
        rw [getD_set_eq (by rw [cpT_len]; omega)]
      · rw [getD_set_ne (cell_ne hA hd h2 hsA hts)]
        exact hb t (by omega) h2
theorem sto_ext {m A V : List Int} {L : List Int} (hA : inM A m.length) (hd : diffF A = true) (hL : L.length = m.length) (h1 : ∀ t, t < A.length → L.getD (A.getD t 0).toNat 0 = V.getD t 0)
    (h2 : ∀ i, (∀ t, t < A.length → (A.getD t 0).toNat ≠ i) → L.getD i 0 = m.getD i 0) : L = stoT m A V A.length :=
  ints_ext (by rw [stoT_len, hL]) fun i hi => by
    by_cases hc : ∃ t, t < A.length ∧ (A.getD t 0).toNat = i
    · obtain ⟨t, ht, rfl⟩ := hc
      rw [h1 t ht, sto_at hA hd ht]
    · have hn : ∀ t, t < A.length → (A.getD t 0).toNat ≠ i := fun t ht e => hc ⟨t, ht, e⟩
      rw [h2 i hn, stoT_out A.length hn]
theorem cp_bwd {m A B : List Int} (hA : inM A m.length) (hB : inM B m.length) (hl : B.length = A.length) (h : earB A B A.length = false) (hd : diffF A = true) : cpT m A B (upV A.length).reverse A.length = stoT m A (tkn m B) A.length := by
  obtain ⟨ha, hb⟩ := cp_bwd_st hA hB hl h hd A.length (Nat.le_refl _)
  exact sto_ext hA hd (cpT_len _ _ _ _ _) (fun t ht => by rw [hb t (by omega) ht, tkn_atI (by omega)]) fun i hi => ha i fun t _ ht => hi t ht
/-- numbers from 0 on, copied one by one: each cell has the number of a cell that came before -/
theorem cp_iota {L : Nat} {A B : List Int} (hA : inM A L) (hB : inM B L) (hl : B.length = A.length) (hd : diffF A = true) : ∀ k, k ≤ A.length →
    (∀ j, j < k → ∃ t, t ≤ j ∧ (cpT (upV L) A B (upV A.length) k).getD (A.getD j 0).toNat 0 = B.getD t 0)
  | 0, _ => fun j hj => by omega
  | k + 1, hk => fun j hj => by
    have hkA : k < A.length := by omega
    have hkB : k < B.length := by omega
    have hA' : inM A (upV L).length := by rw [upV_len]; exact hA
    rw [cpT, upV_at hkA, Int.toNat_natCast]
    obtain ⟨q, hq, hqL⟩ := in_at hB hkB
    by_cases hjk : j = k
    · subst hjk
      have q1 := hA _ (gmem hkA)
      rw [getD_set_eq (by rw [cpT_len, upV_len]; omega)]
      by_cases hc : ∃ i, i < j ∧ (A.getD i 0).toNat = (B.getD j 0).toNat
      · obtain ⟨i, hi, he⟩ := hc
        obtain ⟨t, ht, hv⟩ := cp_iota hA hB hl hd j (by omega) i hi
        rw [he] at hv
        exact ⟨t, by omega, hv⟩
      · refine ⟨j, Nat.le_refl _, ?_⟩
        rw [cpT_out j fun i hi he => ?_]
        · rw [hq, Int.toNat_natCast, upV_at hqL]
        · rw [upV_at (show i < A.length by omega), Int.toNat_natCast] at he
          exact hc ⟨i, hi, he⟩
    · rw [getD_set_ne (cell_ne hA hd (by omega) hkA hjk)]
      exact cp_iota hA hB hl hd k (by omega) j (by omega)
theorem cp_keep {m A B : List Int} (hA : inM A m.length) (hd : diffF A = true) {i : Nat} (hi : i < A.length) : ∀ k, i < k → k ≤ A.length → (cpT m A B (upV A.length) k).getD (A.getD i 0).toNat 0 = (cpT m A B (upV A.length) i).getD (B.getD i 0).toNat 0
  | k + 1, h1, h2 => by
    rw [cpT, upV_at (show k < A.length by omega), Int.toNat_natCast]
    by_cases hik : i = k
    · subst hik
      have q1 := hA _ (gmem hi)
      rw [getD_set_eq (by rw [cpT_len]; omega)]
    · rw [getD_set_ne (cell_ne hA hd hi (by omega) hik)]
      exact cp_keep hA hd hi k (by omega) (by omega)
theorem cp_wrong {L : Nat} {A B : List Int} (hA : inM A L) (hB : inM B L) (hl : B.length = A.length) (hd : diffF A = true) (he : diffF B = true) :
    decide (cpT (upV L) A B (upV A.length) A.length = stoT (upV L) A (tkn (upV L) B) A.length) = !latB A B A.length := by
  have hA' : inM A (upV L).length := by rw [upV_len]; exact hA
  have hB' : inM B (upV L).length := by rw [upV_len]; exact hB
  cases hlat : latB A B A.length with
  | false => exact decide_eq_true (cp_fwd hA' hB' hl hlat A.length (Nat.le_refl _))
  | true =>
    refine decide_eq_false fun e => ?_
    obtain ⟨i, hi, k, h1, h2, h3⟩ := latB_iff.1 hlat
    have hkA : k < A.length := by omega
    have a1 := cp_keep (B := B) hA' hd hkA A.length hkA (Nat.le_refl _)
    rw [e, sto_at hA' hd hkA, tkn_atI h2] at a1
    obtain ⟨t, ht, hv⟩ := cp_iota hA hB hl hd k (by omega) i h1
    rw [h3, hv] at a1
    obtain ⟨q, hq, hqL⟩ := in_at hA hi
    rw [hq, Int.toNat_natCast, upV_at hqL, ← hq, ← h3] at a1
    have := cell_ne hB he h2 (show t < B.length by omega) (by omega)
    rw [a1] at this
    exact this rfl
/-! ### exchanged twice -/
theorem both_ne {A B : List Int} (hA : inC A) (h : ¬ 0 < (bothF A B).length) {i j : Nat} (hi : i < A.length) (hj : j < B.length) : A.getD i 0 ≠ B.getD j 0 := fun e =>
  h (List.length_pos_of_mem (mem_both.2 ⟨hA _ (gmem hi), gmem hi, by rw [e]; exact gmem hj⟩))
theorem swap_at {m A B : List Int} (hA : inM A m.length) (hB : inM B m.length) (hAc : inC A) (hl : B.length = A.length) (h0 : ¬ 0 < (bothF A B).length) (hd : diffF A = true) (he : diffF B = true) :
    (∀ t, t < A.length → (stoT (stoT m A (tkn m B) A.length) B (tkn m A) B.length).getD (A.getD t 0).toNat 0 = m.getD (B.getD t 0).toNat 0) ∧
    (∀ t, t < A.length → (stoT (stoT m A (tkn m B) A.length) B (tkn m A) B.length).getD (B.getD t 0).toNat 0 = m.getD (A.getD t 0).toNat 0) ∧
    ∀ i, (∀ t, t < A.length → (A.getD t 0).toNat ≠ i) → (∀ t, t < A.length → (B.getD t 0).toNat ≠ i) → (stoT (stoT m A (tkn m B) A.length) B (tkn m A) B.length).getD i 0 = m.getD i 0 := by
  have hB' : inM B (stoT m A (tkn m B) A.length).length := by rw [stoT_len]; exact hB
  refine ⟨fun t ht => ?_, fun t ht => ?_, fun i h1 h2 => ?_⟩
  · rw [stoT_out B.length fun j hj e => ?_, sto_at hA hd ht, tkn_atI (by omega)]
    have q1 := hA _ (gmem ht)
    have q2 := hB _ (gmem hj)
    exact both_ne hAc h0 ht hj (by omega)
  · rw [sto_at hB' he (by omega), tkn_atI ht]
  · rw [stoT_out B.length fun j hj => h2 j (by omega), stoT_out A.length h1]
theorem swap_twice {m A B : List Int} (hA : inM A m.length) (hB : inM B m.length) (hAc : inC A) (hl : B.length = A.length) (h0 : ¬ 0 < (bothF A B).length) (hd : diffF A = true) (he : diffF B = true) {O : List Int}
    (hO : stoT (stoT m A (tkn m B) A.length) B (tkn m A) B.length = O) : stoT (stoT O A (tkn O B) A.length) B (tkn O A) B.length = m ∧ tkn O A = tkn m B ∧ tkn O B = tkn m A := by
  obtain ⟨a1, a2, a3⟩ := swap_at hA hB hAc hl h0 hd he
  have hOl : O.length = m.length := by rw [← hO, stoT_len, stoT_len]
  rw [hO] at a1 a2 a3
  have hA' : inM A O.length := by rw [hOl]; exact hA
  have hB' : inM B O.length := by rw [hOl]; exact hB
  obtain ⟨b1, b2, b3⟩ := swap_at hA' hB' hAc hl h0 hd he
  refine ⟨ints_ext (by rw [stoT_len, stoT_len, hOl]) fun i hi => ?_, ?_, ?_⟩
  · by_cases c1 : ∃ t, t < A.length ∧ (A.getD t 0).toNat = i
    · obtain ⟨t, ht, rfl⟩ := c1
      rw [b1 t ht, a2 t ht]
    · by_cases c2 : ∃ t, t < A.length ∧ (B.getD t 0).toNat = i
      · obtain ⟨t, ht, rfl⟩ := c2
        rw [b2 t ht, a1 t ht]
      · have n1 : ∀ t, t < A.length → (A.getD t 0).toNat ≠ i := fun t ht e => c1 ⟨t, ht, e⟩
        have n2 : ∀ t, t < A.length → (B.getD t 0).toNat ≠ i := fun t ht e => c2 ⟨t, ht, e⟩
        rw [b3 i n1 n2, a3 i n1 n2]
  · exact ints_ext (by rw [tkn_len, tkn_len, hl]) fun i hi => by
      rw [tkn_len] at hi
      rw [tkn_atI hi, tkn_atI (by omega), a1 i hi]
  · exact ints_ext (by rw [tkn_len, tkn_len, hl]) fun i hi => by
      rw [tkn_len] at hi
      rw [tkn_atI hi, tkn_atI (by omega), a2 i (by omega)]
/-! ### flipped lines -/
theorem rev_at {l : List Int} {k : Nat} (h : k < l.length) : l.reverse.getD k 0 = l.getD (l.length - 1 - k) 0 := by
  rw [List.getD_eq_getElem?_getD, List.getElem?_reverse h, ← List.getD_eq_getElem?_getD]
theorem cp_rev {m A B : List Int} (hl : B.length = A.length) : ∀ k, k ≤ A.length → cpT m A.reverse B.reverse (upV A.length) k = cpT m A B (upV A.length).reverse k
  | 0, _ => rfl
  | k + 1, hk => by
    rw [cpT, cpT, cp_rev hl k (by omega), upV_at (by omega), upR_at (by omega), Int.toNat_natCast, Int.toNat_natCast, rev_at (by omega), rev_at (by omega), hl]
theorem unr_line {s : List Int} (h : s.length = 1) {k : Nat} (hk : (k : Int) < s.getD 0 0) : unrF s (k : Int) = [(k : Int)] := by
  rw [len_one h, show ([s.getD 0 0] : List Int) = [] ++ [s.getD 0 0] from rfl, unrF_snoc]
  show unrF [] _ ++ [(k : Int).tmod (s.getD 0 0)] = _
  rw [Int.tmod_eq_of_lt (by omega) hk]
  rfl
theorem flip_line {v : Vi} (h : viewOK v = true) (h1 : v.sh.length = 1) : offF (slcF v 0 (indF (v.sh.getD 0 0) flipS)) = (offF v).reverse := by
  have hd : 0 < v.sh.length := by omega
  have o1 := flip_ok h hd
  have s1 := flip_sh h hd
  have c1 := fun hz x hx => flip_cell h hd hz (x := x) hx
  have hn := dim_at h hd
  generalize slcF v 0 (indF (v.sh.getD 0 0) flipS) = w at *
  have hw := off_cnt (vOK o1).1
  have hv := off_cnt (vOK h).1
  rw [s1] at hw
  have hp : prodW v.sh = v.sh.getD 0 0 := by
    rw [len_one h1]
    show IntKind.i64.wrap (1 * v.sh.getD 0 0) = _
    rw [wrap_in (by omega)]
    simp
  refine ints_ext (by rw [List.length_reverse]; omega) fun k hk => ?_
  have hz : ¬ prodW v.sh = 0 := by omega
  have hkn : (k : Int) < v.sh.getD 0 0 := by omega
  have hi := (shape_facts (vOK h).1).2.1
  have hx := unr_ix hi (shape_posV (vOK h).1 hz) k
  obtain ⟨d1, d2⟩ := c1 hz _ hx
  have e0 : (unrF v.sh (k : Int)).getD 0 0 = (k : Int) := by rw [unr_line h1 hkn]; rfl
  obtain ⟨j, hj⟩ : ∃ j : Nat, v.sh.getD 0 0 - 1 - (k : Int) = (j : Int) := ⟨(v.sh.getD 0 0 - 1 - (k : Int)).toNat, by omega⟩
  have e1 : (unrF v.sh (k : Int)).set 0 (v.sh.getD 0 0 - 1 - (unrF v.sh (k : Int)).getD 0 0) = unrF v.sh (j : Int) := by
    rw [e0, hj, unr_line h1 hkn, unr_line h1 (by omega)]; rfl
  rw [e1] at d1 d2
  rw [offF_at (by rw [s1]; omega), s1]
  have a1 := offW_ix o1 (x := unrF v.sh (k : Int)) (by rw [s1]; exact hx)
  rw [s1] at a1
  rw [a1, d1, rev_at (by omega), offF_at (by omega), ← offW_ix h d2]
  congr 2
  omega
theorem flip_hold {m : List Int} {v : Vi} (h : holdB m v = true) {d : Nat} (hd : d < v.sh.length) : holdB m (slcF v d (indF (v.sh.getD d 0) flipS)) = true := by
  obtain ⟨f1, f2, f3⟩ := fit_in h
  have hn := dim_at f2 hd
  unfold holdB
  rw [f1, flip_ok f2 hd, Bool.true_and, Bool.true_and]
  unfold fitB
  rw [List.all_eq_true]
  intro x hx
  have := f3 x (slc_mem f2 hd (ind_rng hn.1) (ind_len hn.1 (by decide)) (ind_ap _ _) hx)
  exact decide_eq_true this.2
end Go.Proofs.YtgpflkmelindfaaGreat
namespace Go.Proofs.YtgpflkmelindfaaGreat
open Go Go.Ev Go.RowKit Go.Ev.Enc Go.Pl

/-! ### draws -/
theorem selC_part {L : List Blk} {n k c off len : Nat} {q : List Int} (hk : n ≤ k) (hq : q.length = c) (ho : off + len ≤ c) (h : L[k]? = some ⟨1, q.map fun n => .int .i64 n⟩) {cap : Nat} : selC (gR n []) L (.sl k c off len cap) = ints 1 ((q.drop off).take len) := by
  have hg : gR n [] k = none := gR_ge hk
  subst hq
  simp [selC, selStep, hg, h, ho, expE, ints, Function.comp_def]
set_option maxHeartbeats 4000000 in
set_option maxRecDepth 100000 in
theorem isp_valuesFor {Sg : FuncId → Option (List AV → Option AV)} (hS : Sound Tryz.prog Sg) (h0 : Sg 58 = none) (h1 : Sg 60 = none) (hc : Sg 38 = some (F1 gCount)) (hs : Sg 68 = some (F1 gIsShape)) {bs : List UInt8} {b n : Nat} {rL : Int → List Blk} (hC : RC bs b n rL) (hb : bs.length ≤ 2000) (p : Int) (hp : 0 ≤ p ∧ p ≤ 700000000) (v : Vi) (hv : viOK v) : ISpec Tryz.prog 34 [.ptr b 1 0 0, .agg [i64 v.b, ints 1 v.sh, ints 1 v.st]] (rL p) (fun r L' => ∃ (V : List Int) (p' : Int), V.length ≤ 60 ∧ r = ints 1 V ∧ p ≤ p' ∧ p' ≤ p + 70 ∧ L' = rL p') := by
  refine ISpec.ret Tryz.func34 rfl (vc3_sound Tryz.pf hS hS _ _ _ ?_)
  have q1 := gCount_eq (l := v.sh) (by have := hv.1; omega)
  have q2 := gIsShape_eq (l := v.sh) (by have := hv.1; omega)
  cases e : shapeOK v.sh with
  | false =>
    rw [e] at q2
    repeat' (first | with_reducible first | refine kI (by kernel_rfl) ?_ | refine kN (by kernel_rfl) ?_ | (first | refine kB1 ?_ ?_ | refine kB2 ?_ ?_) <;> intro hp | (first | refine kD1 ?_ ?_ | refine kD2 ?_ ?_ | refine kS1 ?_ ?_ | refine kS2 ?_ ?_) <;> intro hp <;> try simp only [hp] | simp -implicitDefEqProofs (disch := omega) only [go_sem, Nat.reduceAdd, Nat.reduceSub, reduceCtorEq, Nat.reduceLT, Nat.reduceLeDiff, Nat.reduceEqDiff, Nat.reduceMul, Int.reduceToNat, ↓reduceIte, List.take_of_length_le, if_pos, if_neg, List.getElem?_set_self, List.set_set, cnE, cnV, Tryz.ntmps34, Tryz.results34,  hC.cn, hc, q1])
    refine LoopQ.mix (fun t0 L0 nn ss => ∃ (u : Nat) (_ : Unit), (∃ x : Nat → AV, ss = ⟨mixL 0 (.k :: .k :: .k :: .k :: .k :: .v (.sl (n + 1) 0 0 0 0) :: .v (i64 (prodW v.sh)) :: .k :: .k :: .k :: .k :: .s :: .s :: .s :: .s :: .s :: .s :: .s :: .s :: .s :: .s :: .s :: .s :: .s :: .s :: .k :: .k :: .k :: .k :: .k :: .k :: .k :: .k :: .k :: .k :: .k :: .k :: .k :: .k :: .k :: .k :: .k :: []) t0 x, rL p ++ [⟨3, [.agg [i64 v.b, ints 1 v.sh, ints 1 v.st]]⟩, ⟨1, []⟩]⟩) ∧ (u = 0) ∧ nn = u + 1) ?_ ?_
    · exact ⟨_, 0, (), mixI rfl, rfl, rfl⟩
    · rintro I0 hI0 mm ss ⟨u, _, ⟨x, rfl⟩, rfl, rfl⟩
      by_cases hz : 0 < prodW v.sh
      · repeat' (first | with_reducible first | refine kI (by kernel_rfl) ?_ | refine kN (by kernel_rfl) ?_ | (first | refine kB1 ?_ ?_ | refine kB2 ?_ ?_) <;> intro hp | (first | refine kD1 ?_ ?_ | refine kD2 ?_ ?_ | refine kS1 ?_ ?_ | refine kS2 ?_ ?_) <;> intro hp <;> try simp only [hp] | simp -implicitDefEqProofs (disch := omega) only [go_sem, Nat.reduceAdd, Nat.reduceSub, reduceCtorEq, Nat.reduceLT, Nat.reduceLeDiff, Nat.reduceEqDiff, Nat.reduceMul, Int.reduceToNat, ↓reduceIte, List.take_of_length_le, if_pos, if_neg, List.getElem?_set_self, List.set_set, cnE, cnV, Tryz.ntmps34, Tryz.results34,  hC.cn, hz, hs, q2])
        exact hC.ret0 ⟨[], p, by simp, by rw [selV_sl, selC_part (c := 0) (by omega) rfl (by omega) (q := []) (by rw [hC.at']; rfl)]; rfl, by omega, by omega, rfl⟩
      · repeat' (first | with_reducible first | refine kI (by kernel_rfl) ?_ | refine kN (by kernel_rfl) ?_ | (first | refine kB1 ?_ ?_ | refine kB2 ?_ ?_) <;> intro hp | (first | refine kD1 ?_ ?_ | refine kD2 ?_ ?_ | refine kS1 ?_ ?_ | refine kS2 ?_ ?_) <;> intro hp <;> try simp only [hp] | simp -implicitDefEqProofs (disch := omega) only [go_sem, Nat.reduceAdd, Nat.reduceSub, reduceCtorEq, Nat.reduceLT, Nat.reduceLeDiff, Nat.reduceEqDiff, Nat.reduceMul, Int.reduceToNat, ↓reduceIte, List.take_of_length_le, if_pos, if_neg, List.getElem?_set_self, List.set_set, cnE, cnV, Tryz.ntmps34, Tryz.results34,  hC.cn, hz])
        exact hC.ret0 ⟨[], p, by simp, by rw [selV_sl, selC_part (c := 0) (by omega) rfl (by omega) (q := []) (by rw [hC.at']; rfl)]; rfl, by omega, by omega, rfl⟩
  | true =>
    rw [e] at q2
    obtain ⟨s1, s2, s3, s4, s5⟩ := shape_facts e
    obtain ⟨N, hN⟩ : ∃ N : Nat, prodW v.sh = N := ⟨(prodW v.sh).toNat, by omega⟩
    rw [hN] at q1
    have hN60 : N ≤ 60 := by omega
    repeat' (first | with_reducible first | refine kI (by kernel_rfl) ?_ | refine kN (by kernel_rfl) ?_ | (first | refine kB1 ?_ ?_ | refine kB2 ?_ ?_) <;> intro hp | (first | refine kD1 ?_ ?_ | refine kD2 ?_ ?_ | refine kS1 ?_ ?_ | refine kS2 ?_ ?_) <;> intro hp <;> try simp only [hp] | simp -implicitDefEqProofs (disch := omega) only [go_sem, Nat.reduceAdd, Nat.reduceSub, reduceCtorEq, Nat.reduceLT, Nat.reduceLeDiff, Nat.reduceEqDiff, Nat.reduceMul, Int.reduceToNat, ↓reduceIte, List.take_of_length_le, if_pos, if_neg, List.getElem?_set_self, List.set_set, cnE, cnV, Tryz.ntmps34, Tryz.results34,  hC.cn, hc, q1])
    refine LoopQ.mix (fun t0 L0 nn ss => ∃ (j : Nat) (c : Nat) (q : List Int) (p1 : Int) (_ : Unit), (∃ x : Nat → AV, ss = ⟨mixL 0 (.k :: .k :: .k :: .k :: .k :: .v (.sl (n + 1) c 0 c c) :: .v (i64 (j : Nat)) :: .k :: .k :: .k :: .k :: .s :: .s :: .s :: .s :: .s :: .s :: .s :: .s :: .s :: .s :: .s :: .s :: .s :: .s :: .k :: .k :: .k :: .k :: .k :: .k :: .k :: .k :: .k :: .k :: .k :: .k :: .k :: .k :: .k :: .k :: .k :: []) t0 x, rL p1 ++ [⟨3, [.agg [i64 v.b, ints 1 v.sh, ints 1 v.st]]⟩, ⟨1, q.map fun n => .int .i64 n⟩]⟩) ∧ (q.length = c) ∧ (c + j ≤ 60) ∧ (p ≤ p1) ∧ (p1 + j ≤ p + 60) ∧ nn = 2 * j) ?_ ?_
    · exact ⟨_, N, 0, [], p, (), mixJ (by rfl) rfl, rfl, by omega, by omega, by omega, rfl⟩
    · rintro I0 hI0 mm ss ⟨j, c, q, p1, _, ⟨x, rfl⟩, g1, g2, g3, g4, rfl⟩
      by_cases hj0 : j = 0
      · subst hj0
        by_cases hc0 : c = 0
        · subst hc0
          repeat' (first | with_reducible first | refine kI (by kernel_rfl) ?_ | refine kN (by kernel_rfl) ?_ | (first | refine kB1 ?_ ?_ | refine kB2 ?_ ?_) <;> intro hp | (first | refine kD1 ?_ ?_ | refine kD2 ?_ ?_ | refine kS1 ?_ ?_ | refine kS2 ?_ ?_) <;> intro hp <;> try simp only [hp] | simp -implicitDefEqProofs (disch := omega) only [go_sem, Nat.reduceAdd, Nat.reduceSub, reduceCtorEq, Nat.reduceLT, Nat.reduceLeDiff, Nat.reduceEqDiff, Nat.reduceMul, Int.reduceToNat, ↓reduceIte, List.take_of_length_le, if_pos, if_neg, List.getElem?_set_self, List.set_set, cnE, cnV, Tryz.ntmps34, Tryz.results34,  hC.cn])
          exact hC.ret0 ⟨q, p1, by omega, by rw [selV_sl, selC_part (c := 0) (by omega) g1 (by omega) (q := q) (by rw [hC.at']; rfl), List.drop_zero, List.take_of_length_le (by omega)], by omega, by omega, rfl⟩
        · have hc0' : (0 : Int) < (c : Int) := by omega
          have hc0n : 0 < c := by omega
          repeat' (first | with_reducible first | refine kI (by kernel_rfl) ?_ | refine kN (by kernel_rfl) ?_ | (first | refine kB1 ?_ ?_ | refine kB2 ?_ ?_) <;> intro hp | (first | refine kD1 ?_ ?_ | refine kD2 ?_ ?_ | refine kS1 ?_ ?_ | refine kS2 ?_ ?_) <;> intro hp <;> try simp only [hp] | simp -implicitDefEqProofs (disch := omega) only [go_sem, Nat.reduceAdd, Nat.reduceSub, reduceCtorEq, Nat.reduceLT, Nat.reduceLeDiff, Nat.reduceEqDiff, Nat.reduceMul, Int.reduceToNat, ↓reduceIte, List.take_of_length_le, if_pos, if_neg, List.getElem?_set_self, List.set_set, cnE, cnV, Tryz.ntmps34, Tryz.results34,  hC.cn, hc0', h0, opQ_none])
          refine InlK_intro rfl rfl can_pick ((isp_pick hS (hC.app _) hb _ (by omega) 20 (by omega)).mono ?_)
          rintro r L1 ⟨ch, rfl, -, -, rfl⟩
          by_cases ch0 : ch = 0
          · have ch0' : (ch == 0) = true := beq_t ch0
            have hc1 : ((1 : Nat) : Int) ≤ (c : Int) := by omega
            repeat' (first | with_reducible first | refine kI (by kernel_rfl) ?_ | refine kN (by kernel_rfl) ?_ | (first | refine kB1 ?_ ?_ | refine kB2 ?_ ?_) <;> intro hp | (first | refine kD1 ?_ ?_ | refine kD2 ?_ ?_ | refine kS1 ?_ ?_ | refine kS2 ?_ ?_) <;> intro hp <;> try simp only [hp] | simp -implicitDefEqProofs (disch := omega) only [go_sem, Nat.reduceAdd, Nat.reduceSub, reduceCtorEq, Nat.reduceLT, Nat.reduceLeDiff, Nat.reduceEqDiff, Nat.reduceMul, Int.reduceToNat, ↓reduceIte, List.take_of_length_le, if_pos, if_neg, List.getElem?_set_self, List.set_set, cnE, cnV, Tryz.ntmps34, Tryz.results34,  hC.cn, g1, ch0', hc1])
            exact hC.ret0 ⟨(q.drop 1).take (c - 1), _, by rw [List.length_take]; omega, by rw [selV_sl, selC_part (by omega) g1 (by omega) (by rw [hC.at']; rfl)], by omega, by omega, rfl⟩
          · have ch0' : (ch == 0) = false := beq_f ch0
            by_cases ch1 : ch = 1
            · have ch1' : (ch == 1) = true := beq_t ch1
              repeat' (first | with_reducible first | refine kI (by kernel_rfl) ?_ | refine kN (by kernel_rfl) ?_ | (first | refine kB1 ?_ ?_ | refine kB2 ?_ ?_) <;> intro hp | (first | refine kD1 ?_ ?_ | refine kD2 ?_ ?_ | refine kS1 ?_ ?_ | refine kS2 ?_ ?_) <;> intro hp <;> try simp only [hp] | simp -implicitDefEqProofs (disch := omega) only [go_sem, Nat.reduceAdd, Nat.reduceSub, reduceCtorEq, Nat.reduceLT, Nat.reduceLeDiff, Nat.reduceEqDiff, Nat.reduceMul, Int.reduceToNat, ↓reduceIte, List.take_of_length_le, if_pos, if_neg, List.getElem?_set_self, List.set_set, cnE, cnV, Tryz.ntmps34, Tryz.results34,  hC.cn, g1, ch0', ch1', h1, opQ_none])
              refine InlK_intro rfl rfl can_one ((isp_one hS h0 (hC.app _) hb _ (by omega) 2 [-1, 256] (by decide)).mono ?_)
              rintro r L1 ⟨z, rfl, -, rfl⟩
              have hls : (q.set 0 z).length = c := by rw [List.length_set]; exact g1
              repeat' (first | with_reducible first | refine kI (by kernel_rfl) ?_ | refine kN (by kernel_rfl) ?_ | (first | refine kB1 ?_ ?_ | refine kB2 ?_ ?_) <;> intro hp | (first | refine kD1 ?_ ?_ | refine kD2 ?_ ?_ | refine kS1 ?_ ?_ | refine kS2 ?_ ?_) <;> intro hp <;> try simp only [hp] | simp -implicitDefEqProofs (disch := omega) only [go_sem, Nat.reduceAdd, Nat.reduceSub, reduceCtorEq, Nat.reduceLT, Nat.reduceLeDiff, Nat.reduceEqDiff, Nat.reduceMul, Int.reduceToNat, ↓reduceIte, List.take_of_length_le, if_pos, if_neg, List.getElem?_set_self, List.set_set, cnE, cnV, Tryz.ntmps34, Tryz.results34,  hC.cn, g1, hc0n, map_setI])
              exact hC.ret0 ⟨q.set 0 z, _, by omega, by rw [selV_sl, selC_part (by omega) hls (by omega) (by rw [hC.at']; rfl), List.drop_zero, List.take_of_length_le (by omega)], by omega, by omega, rfl⟩
            · have ch1' : (ch == 1) = false := beq_f ch1
              repeat' (first | with_reducible first | refine kI (by kernel_rfl) ?_ | refine kN (by kernel_rfl) ?_ | (first | refine kB1 ?_ ?_ | refine kB2 ?_ ?_) <;> intro hp | (first | refine kD1 ?_ ?_ | refine kD2 ?_ ?_ | refine kS1 ?_ ?_ | refine kS2 ?_ ?_) <;> intro hp <;> try simp only [hp] | simp -implicitDefEqProofs (disch := omega) only [go_sem, Nat.reduceAdd, Nat.reduceSub, reduceCtorEq, Nat.reduceLT, Nat.reduceLeDiff, Nat.reduceEqDiff, Nat.reduceMul, Int.reduceToNat, ↓reduceIte, List.take_of_length_le, if_pos, if_neg, List.getElem?_set_self, List.set_set, cnE, cnV, Tryz.ntmps34, Tryz.results34,  hC.cn, g1, ch0', ch1'])
              exact hC.ret0 ⟨q, _, by omega, by rw [selV_sl, selC_part (by omega) g1 (by omega) (by rw [hC.at']; rfl), List.drop_zero, List.take_of_length_le (by omega)], by omega, by omega, rfl⟩
      · obtain ⟨i, rfl⟩ : ∃ i, j = i + 1 := ⟨j - 1, by omega⟩
        have hwj : IntKind.i64.wrap (((i + 1 : Nat) : Int) - 1) = (i : Int) := by rw [wrap_in (by omega)]; omega
        repeat' (first | with_reducible first | refine kI (by kernel_rfl) ?_ | refine kN (by kernel_rfl) ?_ | (first | refine kB1 ?_ ?_ | refine kB2 ?_ ?_) <;> intro hp | (first | refine kD1 ?_ ?_ | refine kD2 ?_ ?_ | refine kS1 ?_ ?_ | refine kS2 ?_ ?_) <;> intro hp <;> try simp only [hp] | simp -implicitDefEqProofs (disch := omega) only [go_sem, Nat.reduceAdd, Nat.reduceSub, reduceCtorEq, Nat.reduceLT, Nat.reduceLeDiff, Nat.reduceEqDiff, Nat.reduceMul, Int.reduceToNat, ↓reduceIte, List.take_of_length_le, if_pos, if_neg, List.getElem?_set_self, List.set_set, cnE, cnV, Tryz.ntmps34, Tryz.results34,  hC.cn, hs, q2, h0, opQ_none])
        refine InlK_intro rfl rfl can_pick ((isp_pick hS (hC.app _) hb _ (by omega) 256 (by omega)).mono ?_)
        rintro r L1 ⟨y, rfl, -, -, rfl⟩
        have hA := evApp_rcI hC (p1 + 1) ⟨3, [.agg [i64 v.b, ints 1 v.sh, ints 1 v.st]]⟩ [] (by' := 8) (k := c) (q := q) (x := y) g1 (by omega) (by omega)
        repeat' (first | with_reducible first | refine kI (by kernel_rfl) ?_ | refine kN (by kernel_rfl) ?_ | (first | refine kB1 ?_ ?_ | refine kB2 ?_ ?_) <;> intro hp | (first | refine kD1 ?_ ?_ | refine kD2 ?_ ?_ | refine kS1 ?_ ?_ | refine kS2 ?_ ?_) <;> intro hp <;> try simp only [hp] | simp -implicitDefEqProofs (disch := omega) only [go_sem, Nat.reduceAdd, Nat.reduceSub, reduceCtorEq, Nat.reduceLT, Nat.reduceLeDiff, Nat.reduceEqDiff, Nat.reduceMul, Int.reduceToNat, ↓reduceIte, List.take_of_length_le, if_pos, if_neg, List.getElem?_set_self, List.set_set, cnE, cnV, Tryz.ntmps34, Tryz.results34,  hC.cn, hA, hwj])
        exact ⟨2 * i, by omega, hI0 _ _ ⟨i, c + 1, q ++ [y], p1 + 1, (), mixI rfl, by simp [g1], by omega, by omega, by omega, rfl⟩⟩
def ValV : Prop := ∀ {bs : List UInt8} {b n : Nat} {rL : Int → List Blk} (hC : RC bs b n rL) (hb : bs.length ≤ 2000) (p : Int) (hp : 0 ≤ p ∧ p ≤ 700000000) (v : Vi) (hv : viOK v), ISpec Tryz.prog 34 [.ptr b 1 0 0, .agg [i64 v.b, ints 1 v.sh, ints 1 v.st]] (rL p) fun r L' => ∃ (V : List Int) (p' : Int), V.length ≤ 60 ∧ r = ints 1 V ∧ p ≤ p' ∧ p' ≤ p + 70 ∧ L' = rL p'
theorem can_valuesFor : CanCall Tryz.prog 34 := ⟨_, Tryz.func34, rfl, rfl⟩
set_option maxHeartbeats 4000000 in
set_option maxRecDepth 100000 in
theorem isp_DrawStoreView {Sg : FuncId → Option (List AV → Option AV)} (hS : Sound Tryz.prog Sg) (h6 : Sg 32 = none) (h7 : Sg 33 = none) (h8 : Sg 34 = none) (bs : List UInt8) (hb : bs.length ≤ 1048576) (L : List Blk) (hmv : MemV) (hvv : ValV) : ISpec Tryz.prog 9 [bytesA 0 bs] (L) (fun r L' => ∃ (m : List Int) (v : Vi) (V : List Int), (m.length ≤ 60 ∧ V.length ≤ 60) ∧ viOK v ∧ r = .tup [ints 1 m, viD v, ints 1 V] ∧ L' = L) := by
  refine ISpec.ret Tryz.func9 rfl (vc3_sound Tryz.pf hS hS _ _ _ ?_)
  repeat' (first | with_reducible first | refine kI (by kernel_rfl) ?_ | refine kN (by kernel_rfl) ?_ | (first | refine kB1 ?_ ?_ | refine kB2 ?_ ?_) <;> intro hp | (first | refine kD1 ?_ ?_ | refine kD2 ?_ ?_ | refine kS1 ?_ ?_ | refine kS2 ?_ ?_) <;> intro hp <;> try simp only [hp] | simp -implicitDefEqProofs (disch := omega) only [go_sem, Nat.reduceAdd, Nat.reduceSub, reduceCtorEq, Nat.reduceLT, Nat.reduceLeDiff, Nat.reduceEqDiff, Nat.reduceMul, Int.reduceToNat, ↓reduceIte, List.take_of_length_le, if_pos, if_neg, List.getElem?_set_self, List.set_set, cnE, cnV, Tryz.ntmps9, Tryz.results9,  h6, opQ_none])
  refine InlK_intro rfl rfl can_newRd ((isp_newReader hS bs hb _).mono ?_)
  rintro r L1 ⟨rfl, rfl⟩
  have hb2 : (bs.take 2000).length ≤ 2000 := by simp; omega
  repeat' (first | with_reducible first | refine kI (by kernel_rfl) ?_ | refine kN (by kernel_rfl) ?_ | (first | refine kB1 ?_ ?_ | refine kB2 ?_ ?_) <;> intro hp | (first | refine kD1 ?_ ?_ | refine kD2 ?_ ?_ | refine kS1 ?_ ?_ | refine kS2 ?_ ?_) <;> intro hp <;> try simp only [hp] | simp -implicitDefEqProofs (disch := omega) only [go_sem, Nat.reduceAdd, Nat.reduceSub, reduceCtorEq, Nat.reduceLT, Nat.reduceLeDiff, Nat.reduceEqDiff, Nat.reduceMul, Int.reduceToNat, ↓reduceIte, List.take_of_length_le, if_pos, if_neg, List.getElem?_set_self, List.set_set, cnE, cnV, Tryz.ntmps9, Tryz.results9,  h7, opQ_none])
  refine InlK_intro rfl rfl can_memView ((hmv (RC.new1 (bs.take 2000) L _) hb2 0 (by omega)).mono ?_)
  rintro r L1 ⟨m, v, p', k1, k2, rfl, m1, m2, rfl⟩
  repeat' (first | with_reducible first | refine kI (by kernel_rfl) ?_ | (first | refine kB1 ?_ ?_ | refine kB2 ?_ ?_) <;> intro hp | (first | refine kD1 ?_ ?_ | refine kD2 ?_ ?_ | refine kS1 ?_ ?_ | refine kS2 ?_ ?_) <;> intro hp <;> try simp only [hp] | simp -implicitDefEqProofs (disch := omega) only [go_sem, Nat.reduceAdd, Nat.reduceSub, reduceCtorEq, Nat.reduceLT, Nat.reduceLeDiff, Nat.reduceEqDiff, Nat.reduceMul, Int.reduceToNat, ↓reduceIte, List.take_of_length_le, if_pos, if_neg, List.getElem?_set_self, List.set_set, cnE, cnV, Tryz.ntmps9, Tryz.results9])
  refine DrawQ.any [([0, 1, 2, 3], 4), ([5], 6)] [7] [0, 1] (by kernel_rfl) ?_
  repeat' (first | with_reducible first | refine kI (by kernel_rfl) ?_ | (first | refine kB1 ?_ ?_ | refine kB2 ?_ ?_) <;> intro hp | (first | refine kD1 ?_ ?_ | refine kD2 ?_ ?_ | refine kS1 ?_ ?_ | refine kS2 ?_ ?_) <;> intro hp <;> try simp only [hp] | simp -implicitDefEqProofs (disch := omega) only [go_sem, Nat.reduceAdd, Nat.reduceSub, reduceCtorEq, Nat.reduceLT, Nat.reduceLeDiff, Nat.reduceEqDiff, Nat.reduceMul, Int.reduceToNat, ↓reduceIte, List.take_of_length_le, if_pos, if_neg, List.getElem?_set_self, List.set_set, cnE, cnV, Tryz.ntmps9, Tryz.results9,  h8, opQ_none])
  refine InlK_intro rfl rfl can_valuesFor ((hvv (rc_1b (bs.take 2000) L _ _) hb2 _ (by omega) v k2).mono ?_)
  rintro r L1 ⟨V, p2, k3, rfl, m3, m4, rfl⟩
  repeat' (first | with_reducible first | refine kI (by kernel_rfl) ?_ | (first | refine kB1 ?_ ?_ | refine kB2 ?_ ?_) <;> intro hp | (first | refine kD1 ?_ ?_ | refine kD2 ?_ ?_ | refine kS1 ?_ ?_ | refine kS2 ?_ ?_) <;> intro hp <;> try simp only [hp] | simp -implicitDefEqProofs (disch := omega) only [go_sem, Nat.reduceAdd, Nat.reduceSub, reduceCtorEq, Nat.reduceLT, Nat.reduceLeDiff, Nat.reduceEqDiff, Nat.reduceMul, Int.reduceToNat, ↓reduceIte, List.take_of_length_le, if_pos, if_neg, List.getElem?_set_self, List.set_set, cnE, cnV, Tryz.ntmps9, Tryz.results9])
  refine RetQ.top ?_
  refine ⟨m, v, V, ⟨k1, k3⟩, k2, ?_, rfl⟩
  rw [selV_tup]
  simp only [List.map_cons, List.map_nil, expE, selC_d, selC_int]
set_option maxHeartbeats 4000000 in
set_option maxRecDepth 100000 in
theorem isp_memPair {Sg : FuncId → Option (List AV → Option AV)} (hS : Sound Tryz.prog Sg) (h2 : Sg 59 = none) (h3 : Sg 85 = none) {bs : List UInt8} {b n : Nat} {rL : Int → List Blk} (hC : RC bs b n rL) (hb : bs.length ≤ 2000) (p : Int) (hp : 0 ≤ p ∧ p ≤ 600000000) (hsm : SomeM) (hcp : CopyOfV) : ISpec Tryz.prog 48 [.ptr b 1 0 0] (rL p) (fun r L' => ∃ (m : List Int) (u v : Vi) (p' : Int), m.length ≤ 60 ∧ (viOK u ∧ viOK v) ∧ r = .tup [ints 1 m, viD u, viD v] ∧ p ≤ p' ∧ p' ≤ p + 600 ∧ L' = rL p') := by
  refine ISpec.ret Tryz.func48 rfl (vc3_sound Tryz.pf hS hS _ _ _ ?_)
  repeat' (first | with_reducible first | refine kI (by kernel_rfl) ?_ | refine kN (by kernel_rfl) ?_ | (first | refine kB1 ?_ ?_ | refine kB2 ?_ ?_) <;> intro hp | (first | refine kD1 ?_ ?_ | refine kD2 ?_ ?_ | refine kS1 ?_ ?_ | refine kS2 ?_ ?_) <;> intro hp <;> try simp only [hp] | simp -implicitDefEqProofs (disch := omega) only [go_sem, Nat.reduceAdd, Nat.reduceSub, reduceCtorEq, Nat.reduceLT, Nat.reduceLeDiff, Nat.reduceEqDiff, Nat.reduceMul, Int.reduceToNat, ↓reduceIte, List.take_of_length_le, if_pos, if_neg, List.getElem?_set_self, List.set_set, cnE, cnV, Tryz.ntmps48, Tryz.results48,  hC.cn, h2, opQ_none])
  refine InlK_intro rfl rfl can_someMemory ((hsm (hC.app _) hb p (by omega)).mono ?_)
  rintro r L1 ⟨m, p1, k1, rfl, k2, k3, rfl⟩
  repeat' (first | with_reducible first | refine kI (by kernel_rfl) ?_ | refine kN (by kernel_rfl) ?_ | (first | refine kB1 ?_ ?_ | refine kB2 ?_ ?_) <;> intro hp | (first | refine kD1 ?_ ?_ | refine kD2 ?_ ?_ | refine kS1 ?_ ?_ | refine kS2 ?_ ?_) <;> intro hp <;> try simp only [hp] | simp -implicitDefEqProofs (disch := omega) only [go_sem, Nat.reduceAdd, Nat.reduceSub, reduceCtorEq, Nat.reduceLT, Nat.reduceLeDiff, Nat.reduceEqDiff, Nat.reduceMul, Int.reduceToNat, ↓reduceIte, List.take_of_length_le, if_pos, if_neg, List.getElem?_set_self, List.set_set, cnE, cnV, Tryz.ntmps48, Tryz.results48,  hC.cn, h3, opQ_none])
  refine InlK_intro rfl rfl ⟨_, Tryz.func85, rfl, rfl⟩ ((hcp (hC.app _) hb _ (by omega)).mono ?_)
  rintro r L1 ⟨u, v, p2, k5, rfl, k7, k8, rfl⟩
  repeat' (first | with_reducible first | refine kI (by kernel_rfl) ?_ | (first | refine kB1 ?_ ?_ | refine kB2 ?_ ?_) <;> intro hp | (first | refine kD1 ?_ ?_ | refine kD2 ?_ ?_ | refine kS1 ?_ ?_ | refine kS2 ?_ ?_) <;> intro hp <;> try simp only [hp] | simp -implicitDefEqProofs (disch := omega) only [go_sem, Nat.reduceAdd, Nat.reduceSub, reduceCtorEq, Nat.reduceLT, Nat.reduceLeDiff, Nat.reduceEqDiff, Nat.reduceMul, Int.reduceToNat, ↓reduceIte, List.take_of_length_le, if_pos, if_neg, List.getElem?_set_self, List.set_set, cnE, cnV, Tryz.ntmps48, Tryz.results48,  hC.cn])
  refine DrawQ.any [([0, 1, 2, 3], 4), ([], 5)] [] [2] (by kernel_rfl) ?_
  repeat' (first | with_reducible first | refine kI (by kernel_rfl) ?_ | (first | refine kB1 ?_ ?_ | refine kB2 ?_ ?_) <;> intro hp | (first | refine kD1 ?_ ?_ | refine kD2 ?_ ?_ | refine kS1 ?_ ?_ | refine kS2 ?_ ?_) <;> intro hp <;> try simp only [hp] | simp -implicitDefEqProofs (disch := omega) only [go_sem, Nat.reduceAdd, Nat.reduceSub, reduceCtorEq, Nat.reduceLT, Nat.reduceLeDiff, Nat.reduceEqDiff, Nat.reduceMul, Int.reduceToNat, ↓reduceIte, List.take_of_length_le, if_pos, if_neg, List.getElem?_set_self, List.set_set, cnE, cnV, Tryz.ntmps48, Tryz.results48,  hC.cn])
  refine hC.ret0 ⟨m, u, v, p2, k1, k5, ?_, by omega, by omega, rfl⟩
  rw [selV_tup]
  simp only [List.map_cons, List.map_nil, expE, selC_d, selC_int]
def PairV : Prop := ∀ {bs : List UInt8} {b n : Nat} {rL : Int → List Blk} (hC : RC bs b n rL) (hb : bs.length ≤ 2000) (p : Int) (hp : 0 ≤ p ∧ p ≤ 600000000), ISpec Tryz.prog 48 [.ptr b 1 0 0] (rL p) fun r L' => ∃ (m : List Int) (u v : Vi) (p' : Int), m.length ≤ 60 ∧ (viOK u ∧ viOK v) ∧ r = .tup [ints 1 m, viD u, viD v] ∧ p ≤ p' ∧ p' ≤ p + 600 ∧ L' = rL p'
theorem can_memPair : CanCall Tryz.prog 48 := ⟨_, Tryz.func48, rfl, rfl⟩
def DrPair (f : FuncId) : Prop := ∀ (bs : List UInt8), bs.length ≤ 1048576 → ∀ L : List Blk, ISpec Tryz.prog f [bytesA 0 bs] L fun r L' => ∃ (m : List Int) (u v : Vi), m.length ≤ 60 ∧ (viOK u ∧ viOK v) ∧ r = .tup [ints 1 m, viD u, viD v] ∧ L' = L
theorem selV_pair {g : Nat → Option Nat} {L : List Blk} {m : List Int} {u v : Vi} : selV g L (.tup [ints 1 m, viD u, viD v]) = .tup [ints 1 m, viD u, viD v] := by
  rw [selV_tup]
  simp only [List.map_cons, List.map_nil, expE, selC_d, selC_int]
set_option maxHeartbeats 4000000 in
set_option maxRecDepth 100000 in
theorem isp_DrawCopyView {Sg : FuncId → Option (List AV → Option AV)} (hS : Sound Tryz.prog Sg) (h6 : Sg 32 = none) (h7 : Sg 48 = none) (bs : List UInt8) (hb : bs.length ≤ 1048576) (L : List Blk) (hpv : PairV) : ISpec Tryz.prog 18 [bytesA 0 bs] (L) (fun r L' => ∃ (m : List Int) (u v : Vi), m.length ≤ 60 ∧ (viOK u ∧ viOK v) ∧ r = .tup [ints 1 m, viD u, viD v] ∧ L' = L) := by
  refine ISpec.ret Tryz.func18 rfl (vc3_sound Tryz.pf hS hS _ _ _ ?_)
  repeat' (first | with_reducible first | refine kI (by kernel_rfl) ?_ | refine kN (by kernel_rfl) ?_ | (first | refine kB1 ?_ ?_ | refine kB2 ?_ ?_) <;> intro hp | (first | refine kD1 ?_ ?_ | refine kD2 ?_ ?_ | refine kS1 ?_ ?_ | refine kS2 ?_ ?_) <;> intro hp <;> try simp only [hp] | simp -implicitDefEqProofs (disch := omega) only [go_sem, Nat.reduceAdd, Nat.reduceSub, reduceCtorEq, Nat.reduceLT, Nat.reduceLeDiff, Nat.reduceEqDiff, Nat.reduceMul, Int.reduceToNat, ↓reduceIte, List.take_of_length_le, if_pos, if_neg, List.getElem?_set_self, List.set_set, cnE, cnV, Tryz.ntmps18, Tryz.results18,  h6, opQ_none])
  refine InlK_intro rfl rfl can_newRd ((isp_newReader hS bs hb _).mono ?_)
  rintro r L1 ⟨rfl, rfl⟩
  have hb2 : (bs.take 2000).length ≤ 2000 := by simp; omega
  repeat' (first | with_reducible first | refine kI (by kernel_rfl) ?_ | refine kN (by kernel_rfl) ?_ | (first | refine kB1 ?_ ?_ | refine kB2 ?_ ?_) <;> intro hp | (first | refine kD1 ?_ ?_ | refine kD2 ?_ ?_ | refine kS1 ?_ ?_ | refine kS2 ?_ ?_) <;> intro hp <;> try simp only [hp] | simp -implicitDefEqProofs (disch := omega) only [go_sem, Nat.reduceAdd, Nat.reduceSub, reduceCtorEq, Nat.reduceLT, Nat.reduceLeDiff, Nat.reduceEqDiff, Nat.reduceMul, Int.reduceToNat, ↓reduceIte, List.take_of_length_le, if_pos, if_neg, List.getElem?_set_self, List.set_set, cnE, cnV, Tryz.ntmps18, Tryz.results18,  h7, opQ_none])
  refine InlK_intro rfl rfl can_memPair ((hpv (RC.new2 (bs.take 2000) L _ _) hb2 0 (by omega)).mono ?_)
  rintro r L1 ⟨m, u, v, p', k1, k2, rfl, m1, m2, rfl⟩
  repeat' (first | with_reducible first | refine kI (by kernel_rfl) ?_ | refine kN (by kernel_rfl) ?_ | (first | refine kB1 ?_ ?_ | refine kB2 ?_ ?_) <;> intro hp | (first | refine kD1 ?_ ?_ | refine kD2 ?_ ?_ | refine kS1 ?_ ?_ | refine kS2 ?_ ?_) <;> intro hp <;> try simp only [hp] | simp -implicitDefEqProofs (disch := omega) only [go_sem, Nat.reduceAdd, Nat.reduceSub, reduceCtorEq, Nat.reduceLT, Nat.reduceLeDiff, Nat.reduceEqDiff, Nat.reduceMul, Int.reduceToNat, ↓reduceIte, List.take_of_length_le, if_pos, if_neg, List.getElem?_set_self, List.set_set, cnE, cnV, Tryz.ntmps18, Tryz.results18])
  exact RetQ.top ⟨m, u, v, k1, k2, selV_pair, rfl⟩
set_option maxHeartbeats 4000000 in
set_option maxRecDepth 100000 in
theorem isp_DrawCopyForward {Sg : FuncId → Option (List AV → Option AV)} (hS : Sound Tryz.prog Sg) (h6 : Sg 32 = none) (h7 : Sg 48 = none) (bs : List UInt8) (hb : bs.length ≤ 1048576) (L : List Blk) (hpv : PairV) : ISpec Tryz.prog 21 [bytesA 0 bs] (L) (fun r L' => ∃ (m : List Int) (u v : Vi), m.length ≤ 60 ∧ (viOK u ∧ viOK v) ∧ r = .tup [ints 1 m, viD u, viD v] ∧ L' = L) := by
  refine ISpec.ret Tryz.func21 rfl (vc3_sound Tryz.pf hS hS _ _ _ ?_)
  repeat' (first | with_reducible first | refine kI (by kernel_rfl) ?_ | refine kN (by kernel_rfl) ?_ | (first | refine kB1 ?_ ?_ | refine kB2 ?_ ?_) <;> intro hp | (first | refine kD1 ?_ ?_ | refine kD2 ?_ ?_ | refine kS1 ?_ ?_ | refine kS2 ?_ ?_) <;> intro hp <;> try simp only [hp] | simp -implicitDefEqProofs (disch := omega) only [go_sem, Nat.reduceAdd, Nat.reduceSub, reduceCtorEq, Nat.reduceLT, Nat.reduceLeDiff, Nat.reduceEqDiff, Nat.reduceMul, Int.reduceToNat, ↓reduceIte, List.take_of_length_le, if_pos, if_neg, List.getElem?_set_self, List.set_set, cnE, cnV, Tryz.ntmps21, Tryz.results21,  h6, opQ_none])
  refine InlK_intro rfl rfl can_newRd ((isp_newReader hS bs hb _).mono ?_)
  rintro r L1 ⟨rfl, rfl⟩
  have hb2 : (bs.take 2000).length ≤ 2000 := by simp; omega
  repeat' (first | with_reducible first | refine kI (by kernel_rfl) ?_ | refine kN (by kernel_rfl) ?_ | (first | refine kB1 ?_ ?_ | refine kB2 ?_ ?_) <;> intro hp | (first | refine kD1 ?_ ?_ | refine kD2 ?_ ?_ | refine kS1 ?_ ?_ | refine kS2 ?_ ?_) <;> intro hp <;> try simp only [hp] | simp -implicitDefEqProofs (disch := omega) only [go_sem, Nat.reduceAdd, Nat.reduceSub, reduceCtorEq, Nat.reduceLT, Nat.reduceLeDiff, Nat.reduceEqDiff, Nat.reduceMul, Int.reduceToNat, ↓reduceIte, List.take_of_length_le, if_pos, if_neg, List.getElem?_set_self, List.set_set, cnE, cnV, Tryz.ntmps21, Tryz.results21,  h7, opQ_none])
  refine InlK_intro rfl rfl can_memPair ((hpv (RC.new2 (bs.take 2000) L _ _) hb2 0 (by omega)).mono ?_)
  rintro r L1 ⟨m, u, v, p', k1, k2, rfl, m1, m2, rfl⟩
  repeat' (first | with_reducible first | refine kI (by kernel_rfl) ?_ | refine kN (by kernel_rfl) ?_ | (first | refine kB1 ?_ ?_ | refine kB2 ?_ ?_) <;> intro hp | (first | refine kD1 ?_ ?_ | refine kD2 ?_ ?_ | refine kS1 ?_ ?_ | refine kS2 ?_ ?_) <;> intro hp <;> try simp only [hp] | simp -implicitDefEqProofs (disch := omega) only [go_sem, Nat.reduceAdd, Nat.reduceSub, reduceCtorEq, Nat.reduceLT, Nat.reduceLeDiff, Nat.reduceEqDiff, Nat.reduceMul, Int.reduceToNat, ↓reduceIte, List.take_of_length_le, if_pos, if_neg, List.getElem?_set_self, List.set_set, cnE, cnV, Tryz.ntmps21, Tryz.results21])
  exact RetQ.top ⟨m, u, v, k1, k2, selV_pair, rfl⟩
set_option maxHeartbeats 4000000 in
set_option maxRecDepth 100000 in
theorem isp_DrawCopyBackward {Sg : FuncId → Option (List AV → Option AV)} (hS : Sound Tryz.prog Sg) (h6 : Sg 32 = none) (h7 : Sg 48 = none) (bs : List UInt8) (hb : bs.length ≤ 1048576) (L : List Blk) (hpv : PairV) : ISpec Tryz.prog 28 [bytesA 0 bs] (L) (fun r L' => ∃ (m : List Int) (u v : Vi), m.length ≤ 60 ∧ (viOK u ∧ viOK v) ∧ r = .tup [ints 1 m, viD u, viD v] ∧ L' = L) := by
  refine ISpec.ret Tryz.func28 rfl (vc3_sound Tryz.pf hS hS _ _ _ ?_)
  repeat' (first | with_reducible first | refine kI (by kernel_rfl) ?_ | refine kN (by kernel_rfl) ?_ | (first | refine kB1 ?_ ?_ | refine kB2 ?_ ?_) <;> intro hp | (first | refine kD1 ?_ ?_ | refine kD2 ?_ ?_ | refine kS1 ?_ ?_ | refine kS2 ?_ ?_) <;> intro hp <;> try simp only [hp] | simp -implicitDefEqProofs (disch := omega) only [go_sem, Nat.reduceAdd, Nat.reduceSub, reduceCtorEq, Nat.reduceLT, Nat.reduceLeDiff, Nat.reduceEqDiff, Nat.reduceMul, Int.reduceToNat, ↓reduceIte, List.take_of_length_le, if_pos, if_neg, List.getElem?_set_self, List.set_set, cnE, cnV, Tryz.ntmps28, Tryz.results28,  h6, opQ_none])
  refine InlK_intro rfl rfl can_newRd ((isp_newReader hS bs hb _).mono ?_)
  rintro r L1 ⟨rfl, rfl⟩
  have hb2 : (bs.take 2000).length ≤ 2000 := by simp; omega
  repeat' (first | with_reducible first | refine kI (by kernel_rfl) ?_ | refine kN (by kernel_rfl) ?_ | (first | refine kB1 ?_ ?_ | refine kB2 ?_ ?_) <;> intro hp | (first | refine kD1 ?_ ?_ | refine kD2 ?_ ?_ | refine kS1 ?_ ?_ | refine kS2 ?_ ?_) <;> intro hp <;> try simp only [hp] | simp -implicitDefEqProofs (disch := omega) only [go_sem, Nat.reduceAdd, Nat.reduceSub, reduceCtorEq, Nat.reduceLT, Nat.reduceLeDiff, Nat.reduceEqDiff, Nat.reduceMul, Int.reduceToNat, ↓reduceIte, List.take_of_length_le, if_pos, if_neg, List.getElem?_set_self, List.set_set, cnE, cnV, Tryz.ntmps28, Tryz.results28,  h7, opQ_none])
  refine InlK_intro rfl rfl can_memPair ((hpv (RC.new2 (bs.take 2000) L _ _) hb2 0 (by omega)).mono ?_)
  rintro r L1 ⟨m, u, v, p', k1, k2, rfl, m1, m2, rfl⟩
  repeat' (first | with_reducible first | refine kI (by kernel_rfl) ?_ | refine kN (by kernel_rfl) ?_ | (first | refine kB1 ?_ ?_ | refine kB2 ?_ ?_) <;> intro hp | (first | refine kD1 ?_ ?_ | refine kD2 ?_ ?_ | refine kS1 ?_ ?_ | refine kS2 ?_ ?_) <;> intro hp <;> try simp only [hp] | simp -implicitDefEqProofs (disch := omega) only [go_sem, Nat.reduceAdd, Nat.reduceSub, reduceCtorEq, Nat.reduceLT, Nat.reduceLeDiff, Nat.reduceEqDiff, Nat.reduceMul, Int.reduceToNat, ↓reduceIte, List.take_of_length_le, if_pos, if_neg, List.getElem?_set_self, List.set_set, cnE, cnV, Tryz.ntmps28, Tryz.results28])
  exact RetQ.top ⟨m, u, v, k1, k2, selV_pair, rfl⟩
def DrPairT (f : FuncId) : Prop := ∀ (bs : List UInt8), bs.length ≤ 1048576 → ∀ L : List Blk, ISpec Tryz.prog f [bytesA 0 bs] L fun r L' => ∃ (m : List Int) (u v : Vi) (t : Nat), m.length ≤ 60 ∧ (viOK u ∧ viOK v) ∧ r = .tup [ints 1 m, .agg [i64 u.b, ints t u.sh, ints t u.st], .agg [i64 v.b, ints t v.sh, ints t v.st]] ∧ L' = L
set_option maxHeartbeats 4000000 in
set_option maxRecDepth 100000 in
theorem isp_DrawSwapViews {Sg : FuncId → Option (List AV → Option AV)} (hS : Sound Tryz.prog Sg) (h0 : Sg 58 = none) (h1 : Sg 60 = none) (h6 : Sg 32 = none) (h7 : Sg 48 = none) (h8 : Sg 59 = none) (bs : List UInt8) (hb : bs.length ≤ 1048576) (L : List Blk) (hpv : PairV) (hsm : SomeM) : ISpec Tryz.prog 25 [bytesA 0 bs] (L) (fun r L' => ∃ (m : List Int) (u v : Vi) (t : Nat), m.length ≤ 60 ∧ (viOK u ∧ viOK v) ∧ r = .tup [ints 1 m, .agg [i64 u.b, ints t u.sh, ints t u.st], .agg [i64 v.b, ints t v.sh, ints t v.st]] ∧ L' = L) := by
  refine ISpec.ret Tryz.func25 rfl (vc3_sound Tryz.pf hS hS _ _ _ ?_)
  repeat' (first | with_reducible first | refine kI (by kernel_rfl) ?_ | refine kN (by kernel_rfl) ?_ | (first | refine kB1 ?_ ?_ | refine kB2 ?_ ?_) <;> intro hp | (first | refine kD1 ?_ ?_ | refine kD2 ?_ ?_ | refine kS1 ?_ ?_ | refine kS2 ?_ ?_) <;> intro hp <;> try simp only [hp] | simp -implicitDefEqProofs (disch := omega) only [go_sem, Nat.reduceAdd, Nat.reduceSub, reduceCtorEq, Nat.reduceLT, Nat.reduceLeDiff, Nat.reduceEqDiff, Nat.reduceMul, Int.reduceToNat, ↓reduceIte, List.take_of_length_le, if_pos, if_neg, List.getElem?_set_self, List.set_set, cnE, cnV, Tryz.ntmps25, Tryz.results25,  h6, opQ_none])
  refine InlK_intro rfl rfl can_newRd ((isp_newReader hS bs hb _).mono ?_)
  rintro r L1 ⟨rfl, rfl⟩
  have hb2 : (bs.take 2000).length ≤ 2000 := by simp; omega
  have hC := RC.new2 (bs.take 2000) L ⟨3, [.agg [.int .i64 0, .nilS, .nilS]]⟩ ⟨3, [.agg [.int .i64 0, .nilS, .nilS]]⟩
  repeat' (first | with_reducible first | refine kI (by kernel_rfl) ?_ | refine kN (by kernel_rfl) ?_ | (first | refine kB1 ?_ ?_ | refine kB2 ?_ ?_) <;> intro hp | (first | refine kD1 ?_ ?_ | refine kD2 ?_ ?_ | refine kS1 ?_ ?_ | refine kS2 ?_ ?_) <;> intro hp <;> try simp only [hp] | simp -implicitDefEqProofs (disch := omega) only [go_sem, Nat.reduceAdd, Nat.reduceSub, reduceCtorEq, Nat.reduceLT, Nat.reduceLeDiff, Nat.reduceEqDiff, Nat.reduceMul, Int.reduceToNat, ↓reduceIte, List.take_of_length_le, if_pos, if_neg, List.getElem?_set_self, List.set_set, cnE, cnV, Tryz.ntmps25, Tryz.results25,  h0, opQ_none])
  refine InlK_intro rfl rfl can_pick ((isp_pick hS hC hb2 0 (by omega) 2 (by omega)).mono ?_)
  rintro r L1 ⟨ch, rfl, -, -, rfl⟩
  by_cases hch : ch = 0
  · have hch' : (ch == 0) = true := beq_t hch
    repeat' (first | with_reducible first | refine kI (by kernel_rfl) ?_ | refine kN (by kernel_rfl) ?_ | (first | refine kB1 ?_ ?_ | refine kB2 ?_ ?_) <;> intro hp | (first | refine kD1 ?_ ?_ | refine kD2 ?_ ?_ | refine kS1 ?_ ?_ | refine kS2 ?_ ?_) <;> intro hp <;> try simp only [hp] | simp -implicitDefEqProofs (disch := omega) only [go_sem, Nat.reduceAdd, Nat.reduceSub, reduceCtorEq, Nat.reduceLT, Nat.reduceLeDiff, Nat.reduceEqDiff, Nat.reduceMul, Int.reduceToNat, ↓reduceIte, List.take_of_length_le, if_pos, if_neg, List.getElem?_set_self, List.set_set, cnE, cnV, Tryz.ntmps25, Tryz.results25,  hch', h8, opQ_none])
    refine InlK_intro rfl rfl can_someMemory ((hsm hC hb2 _ (by omega)).mono ?_)
    rintro r L1 ⟨m, p1, k1, rfl, k2, k3, rfl⟩
    repeat' (first | with_reducible first | refine kI (by kernel_rfl) ?_ | refine kN (by kernel_rfl) ?_ | (first | refine kB1 ?_ ?_ | refine kB2 ?_ ?_) <;> intro hp | (first | refine kD1 ?_ ?_ | refine kD2 ?_ ?_ | refine kS1 ?_ ?_ | refine kS2 ?_ ?_) <;> intro hp <;> try simp only [hp] | simp -implicitDefEqProofs (disch := omega) only [go_sem, Nat.reduceAdd, Nat.reduceSub, reduceCtorEq, Nat.reduceLT, Nat.reduceLeDiff, Nat.reduceEqDiff, Nat.reduceMul, Int.reduceToNat, ↓reduceIte, List.take_of_length_le, if_pos, if_neg, List.getElem?_set_self, List.set_set, cnE, cnV, Tryz.ntmps25, Tryz.results25,  h1, opQ_none])
    refine InlK_intro rfl rfl can_one ((isp_one hS h0 hC hb2 _ (by omega) 2 [3, 2, 4, 5] (by decide)).mono ?_)
    rintro r L1 ⟨y1, rfl, -, rfl⟩
    repeat' (first | with_reducible first | refine kI (by kernel_rfl) ?_ | refine kN (by kernel_rfl) ?_ | (first | refine kB1 ?_ ?_ | refine kB2 ?_ ?_) <;> intro hp | (first | refine kD1 ?_ ?_ | refine kD2 ?_ ?_ | refine kS1 ?_ ?_ | refine kS2 ?_ ?_) <;> intro hp <;> try simp only [hp] | simp -implicitDefEqProofs (disch := omega) only [go_sem, Nat.reduceAdd, Nat.reduceSub, reduceCtorEq, Nat.reduceLT, Nat.reduceLeDiff, Nat.reduceEqDiff, Nat.reduceMul, Int.reduceToNat, ↓reduceIte, List.take_of_length_le, if_pos, if_neg, List.getElem?_set_self, List.set_set, cnE, cnV, Tryz.ntmps25, Tryz.results25,  h1, opQ_none])
    refine InlK_intro rfl rfl can_one ((isp_one hS h0 hC hb2 _ (by omega) 2 [1, 3, 9, 2] (by decide)).mono ?_)
    rintro r L1 ⟨y2, rfl, -, rfl⟩
    repeat' (first | with_reducible first | refine kI (by kernel_rfl) ?_ | refine kN (by kernel_rfl) ?_ | (first | refine kB1 ?_ ?_ | refine kB2 ?_ ?_) <;> intro hp | (first | refine kD1 ?_ ?_ | refine kD2 ?_ ?_ | refine kS1 ?_ ?_ | refine kS2 ?_ ?_) <;> intro hp <;> try simp only [hp] | simp -implicitDefEqProofs (disch := omega) only [go_sem, Nat.reduceAdd, Nat.reduceSub, reduceCtorEq, Nat.reduceLT, Nat.reduceLeDiff, Nat.reduceEqDiff, Nat.reduceMul, Int.reduceToNat, ↓reduceIte, List.take_of_length_le, if_pos, if_neg, List.getElem?_set_self, List.set_set, cnE, cnV, Tryz.ntmps25, Tryz.results25,  h1, opQ_none])
    refine InlK_intro rfl rfl can_one ((isp_one hS h0 hC hb2 _ (by omega) 2 [2, 1] (by decide)).mono ?_)
    rintro r L1 ⟨y3, rfl, -, rfl⟩
    repeat' (first | with_reducible first | refine kI (by kernel_rfl) ?_ | refine kN (by kernel_rfl) ?_ | (first | refine kB1 ?_ ?_ | refine kB2 ?_ ?_) <;> intro hp | (first | refine kD1 ?_ ?_ | refine kD2 ?_ ?_ | refine kS1 ?_ ?_ | refine kS2 ?_ ?_) <;> intro hp <;> try simp only [hp] | simp -implicitDefEqProofs (disch := omega) only [go_sem, Nat.reduceAdd, Nat.reduceSub, reduceCtorEq, Nat.reduceLT, Nat.reduceLeDiff, Nat.reduceEqDiff, Nat.reduceMul, Int.reduceToNat, ↓reduceIte, List.take_of_length_le, if_pos, if_neg, List.getElem?_set_self, List.set_set, cnE, cnV, Tryz.ntmps25, Tryz.results25])
    refine RetQ.top ?_
    refine ⟨m, ⟨0, [y1], [2]⟩, ⟨y2, [y1], [y3]⟩, 2, k1, ⟨⟨by simp, by simp⟩, ⟨by simp, by simp⟩⟩, ?_, rfl⟩
    rw [selV_tup]
    simp [expE, selC, selStep, ints, Function.comp_def]
  · have hch' : (ch == 0) = false := beq_f hch
    repeat' (first | with_reducible first | refine kI (by kernel_rfl) ?_ | refine kN (by kernel_rfl) ?_ | (first | refine kB1 ?_ ?_ | refine kB2 ?_ ?_) <;> intro hp | (first | refine kD1 ?_ ?_ | refine kD2 ?_ ?_ | refine kS1 ?_ ?_ | refine kS2 ?_ ?_) <;> intro hp <;> try simp only [hp] | simp -implicitDefEqProofs (disch := omega) only [go_sem, Nat.reduceAdd, Nat.reduceSub, reduceCtorEq, Nat.reduceLT, Nat.reduceLeDiff, Nat.reduceEqDiff, Nat.reduceMul, Int.reduceToNat, ↓reduceIte, List.take_of_length_le, if_pos, if_neg, List.getElem?_set_self, List.set_set, cnE, cnV, Tryz.ntmps25, Tryz.results25,  hch', h7, opQ_none])
    refine InlK_intro rfl rfl can_memPair ((hpv hC hb2 _ (by omega)).mono ?_)
    rintro r L1 ⟨m, u, v, p', k1, k2, rfl, m1, m2, rfl⟩
    repeat' (first | with_reducible first | refine kI (by kernel_rfl) ?_ | refine kN (by kernel_rfl) ?_ | (first | refine kB1 ?_ ?_ | refine kB2 ?_ ?_) <;> intro hp | (first | refine kD1 ?_ ?_ | refine kD2 ?_ ?_ | refine kS1 ?_ ?_ | refine kS2 ?_ ?_) <;> intro hp <;> try simp only [hp] | simp -implicitDefEqProofs (disch := omega) only [go_sem, Nat.reduceAdd, Nat.reduceSub, reduceCtorEq, Nat.reduceLT, Nat.reduceLeDiff, Nat.reduceEqDiff, Nat.reduceMul, Int.reduceToNat, ↓reduceIte, List.take_of_length_le, if_pos, if_neg, List.getElem?_set_self, List.set_set, cnE, cnV, Tryz.ntmps25, Tryz.results25])
    exact RetQ.top ⟨m, u, v, 1, k1, k2, selV_pair, rfl⟩
end Go.Proofs.YtgpflkmelindfaaGreat
namespace Go.Proofs.YtgpflkmelindfaaGreat
open Go Go.Ev Go.RowKit Go.Ev.Enc Go.Pl

def DrSto (f : FuncId) : Prop := ∀ (bs : List UInt8), bs.length ≤ 1048576 → ∀ L : List Blk, ISpec Tryz.prog f [bytesA 0 bs] L fun r L' => ∃ (m : List Int) (v : Vi) (V : List Int), (m.length ≤ 60 ∧ V.length ≤ 60) ∧ viOK v ∧ r = .tup [ints 1 m, viD v, ints 1 V] ∧ L' = L
theorem can_DrawStoreView : CanCall Tryz.prog 9 := ⟨_, Tryz.func9, rfl, rfl⟩
theorem can_DrawCopyView : CanCall Tryz.prog 18 := ⟨_, Tryz.func18, rfl, rfl⟩
theorem can_DrawCopyForward : CanCall Tryz.prog 21 := ⟨_, Tryz.func21, rfl, rfl⟩
theorem can_DrawCopyBackward : CanCall Tryz.prog 28 := ⟨_, Tryz.func28, rfl, rfl⟩
theorem can_DrawSwapViews : CanCall Tryz.prog 25 := ⟨_, Tryz.func25, rfl, rfl⟩
theorem eq_refl_t {a : List Int} (h : a.length < 4294967296) : gEqInts a a = some true := (gEqInts_eq ⟨h, h⟩).trans (by simp)
theorem chgF_len {a b : List Int} (h : a.length ≤ 60) : (chgF a b).length ≤ 60 := by
  unfold chgF
  split
  · have := chgT_len a b a.length; omega
  · simp
theorem one_t {v : Vi} (h : viewOK v = true) : gOneT v = some (diffF (offF v)) := by rw [gOneT_eq (ok_viB h), h, Bool.true_and]
set_option maxHeartbeats 8000000 in
set_option maxRecDepth 100000 in
theorem law_StoreView {Sg Sd : FuncId → Option (List AV → Option AV)} (hS : Sound Tryz.prog Sg) (hD : Sound Tryz.prog Sd) (n1 : Sg 9 = none) (h1 : Sg 10 = some (F3 gStore)) (h2 : Sg 11 = some (F3 gStore)) (h3 : Sg 12 = some (F2 gEqInts)) (h4 : Sg 13 = some (F2 gLoad)) (h5 : Sd 15 = some (F2 gChg)) (h6 : Sd 16 = some (F1 gCellsT)) (h7 : Sd 14 = some (F2 gWithin)) (h8 : Sd 17 = some (F1 gOneT)) (h9 : Sd 12 = some (F2 gEqInts)) (hDr : DrSto 9) : ∀ a r, F1 gTrueW a = some r → CSpec Tryz.prog 3 a r := by
  refine F1_spec ?_
  intro bs r hr
  obtain ⟨g1, rfl⟩ := gd_some hr
  refine law3 Tryz.func3 rfl Tryz.pf hS hD ?_
  by_cases hb : 1048576 < bs.length
  · repeat' (first | with_reducible first | refine kI (by kernel_rfl) ?_ | refine kN (by kernel_rfl) ?_ | (first | refine kB1 ?_ ?_ | refine kB2 ?_ ?_) <;> intro hp | (first | refine kD1 ?_ ?_ | refine kD2 ?_ ?_ | refine kS1 ?_ ?_ | refine kS2 ?_ ?_) <;> intro hp <;> try simp only [hp] | simp -implicitDefEqProofs (disch := omega) only [go_sem, Nat.reduceAdd, Nat.reduceSub, reduceCtorEq, Nat.reduceLT, Nat.reduceLeDiff, Nat.reduceEqDiff, Nat.reduceMul, Int.reduceToNat, ↓reduceIte, List.take_of_length_le, if_pos, if_neg, List.getElem?_set_self, List.set_set, cnE, cnV, Tryz.ntmps3, Tryz.results3])
  · repeat' (first | with_reducible first | refine kI (by kernel_rfl) ?_ | refine kN (by kernel_rfl) ?_ | (first | refine kB1 ?_ ?_ | refine kB2 ?_ ?_) <;> intro hp | (first | refine kD1 ?_ ?_ | refine kD2 ?_ ?_ | refine kS1 ?_ ?_ | refine kS2 ?_ ?_) <;> intro hp <;> try simp only [hp] | simp -implicitDefEqProofs (disch := omega) only [go_sem, Nat.reduceAdd, Nat.reduceSub, reduceCtorEq, Nat.reduceLT, Nat.reduceLeDiff, Nat.reduceEqDiff, Nat.reduceMul, Int.reduceToNat, ↓reduceIte, List.take_of_length_le, if_pos, if_neg, List.getElem?_set_self, List.set_set, cnE, cnV, Tryz.ntmps3, Tryz.results3,  n1, opQ_none])
    refine InlK_intro rfl rfl can_DrawStoreView ((hDr bs (by omega) _).mono ?_)
    rintro r L1 ⟨m, v, V, ⟨hm60, hV60⟩, ⟨k1, k2⟩, rfl, rfl⟩
    have hmv : memB m v := ⟨by omega, by omega, by omega⟩
    have q1 := gStore_eq (m := m) (v := v) (V := V) ⟨hmv, by omega⟩
    unfold storR at q1
    cases hc : stoB m v V with
    | true =>
      rw [hc, if_pos rfl] at q1
      obtain ⟨e1, e2, e3⟩ := stoB_iff.1 hc
      obtain ⟨f1, f2, f3⟩ := fit_in e1
      have h6' := offF_60 (vOK f2).1
      unfold stoV at q1
      have hmo := sto_mem (A := offF v) f1 e3 (k := (offF v).length) (by omega)
      have hln := stoT_len m (offF v) V (offF v).length
      have hch := within_srt (chg_sto (V := V) f3 (Nat.le_refl (offF v).length))
      have hcl := chgF_len (a := m) (b := stoT m (offF v) V (offF v).length) hm60
      have q4 := gLoad_eq (m := stoT m (offF v) V (offF v).length) (v := v) ⟨by omega, hmv.2⟩
      rw [hold_of e1 hmo hln, if_pos rfl] at q4
      have htl := tkn_len (stoT m (offF v) V (offF v).length) (offF v)
      have q5 := gChg_eq (a := m) (b := stoT m (offF v) V (offF v).length) ⟨by omega, by omega⟩
      have q6 := gCellsT_eq hmv.2
      rw [f2, if_pos rfl] at q6
      have hsl := srt_len (offF v)
      have q7 := (gWithin_eq (a := chgF m (stoT m (offF v) V (offF v).length)) (b := srt (offF v)) ⟨by omega, by omega⟩).trans (by rw [hch])
      have q3 := eq_refl_t (a := stoT m (offF v) V (offF v).length) (by omega)
      have q8 := one_t f2
      have hts := fun hd => tkn_sto (V := V) f3 hd e2
      generalize chgF m (stoT m (offF v) V (offF v).length) = C at *
      generalize stoT m (offF v) V (offF v).length = O at *
      have hll : ((O.length : Int) == (m.length : Int)) = true := beq_t (by omega)
      cases hd : diffF (offF v) with
      | false =>
        rw [hd] at q8
        repeat' (first | with_reducible first | refine kI (by kernel_rfl) ?_ | refine kN (by kernel_rfl) ?_ | (first | refine kB1 ?_ ?_ | refine kB2 ?_ ?_) <;> intro hp | (first | refine kD1 ?_ ?_ | refine kD2 ?_ ?_ | refine kS1 ?_ ?_ | refine kS2 ?_ ?_) <;> intro hp <;> try simp only [hp] | simp -implicitDefEqProofs (disch := omega) only [go_sem, Nat.reduceAdd, Nat.reduceSub, reduceCtorEq, Nat.reduceLT, Nat.reduceLeDiff, Nat.reduceEqDiff, Nat.reduceMul, Int.reduceToNat, ↓reduceIte, List.take_of_length_le, if_pos, if_neg, List.getElem?_set_self, List.set_set, cnE, cnV, Tryz.ntmps3, Tryz.results3,  h1, q1, h2, h3, q3, h4, q4, h5, q5, h6, q6, h7, q7, h8, q8, hll])
      | true =>
        rw [hd] at q8
        rw [hts hd] at q4
        have q9 := eq_refl_t (a := V) (by omega)
        repeat' (first | with_reducible first | refine kI (by kernel_rfl) ?_ | refine kN (by kernel_rfl) ?_ | (first | refine kB1 ?_ ?_ | refine kB2 ?_ ?_) <;> intro hp | (first | refine kD1 ?_ ?_ | refine kD2 ?_ ?_ | refine kS1 ?_ ?_ | refine kS2 ?_ ?_) <;> intro hp <;> try simp only [hp] | simp -implicitDefEqProofs (disch := omega) only [go_sem, Nat.reduceAdd, Nat.reduceSub, reduceCtorEq, Nat.reduceLT, Nat.reduceLeDiff, Nat.reduceEqDiff, Nat.reduceMul, Int.reduceToNat, ↓reduceIte, List.take_of_length_le, if_pos, if_neg, List.getElem?_set_self, List.set_set, cnE, cnV, Tryz.ntmps3, Tryz.results3,  h1, q1, h2, h3, q3, h4, q4, h5, q5, h6, q6, h7, q7, h8, q8, h9, q9, hll])
    | false =>
      rw [hc, if_neg (by simp)] at q1
      have q3 := eq_nil_t
      repeat' (first | with_reducible first | refine kI (by kernel_rfl) ?_ | refine kN (by kernel_rfl) ?_ | (first | refine kB1 ?_ ?_ | refine kB2 ?_ ?_) <;> intro hp | (first | refine kD1 ?_ ?_ | refine kD2 ?_ ?_ | refine kS1 ?_ ?_ | refine kS2 ?_ ?_) <;> intro hp <;> try simp only [hp] | simp -implicitDefEqProofs (disch := omega) only [go_sem, Nat.reduceAdd, Nat.reduceSub, reduceCtorEq, Nat.reduceLT, Nat.reduceLeDiff, Nat.reduceEqDiff, Nat.reduceMul, Int.reduceToNat, ↓reduceIte, List.take_of_length_le, if_pos, if_neg, List.getElem?_set_self, List.set_set, cnE, cnV, Tryz.ntmps3, Tryz.results3,  h1, q1, h2, h3, q3, dec_i0])
set_option maxHeartbeats 8000000 in
set_option maxRecDepth 100000 in
theorem law_CopyView {Sg Sd : FuncId → Option (List AV → Option AV)} (hS : Sound Tryz.prog Sg) (hD : Sound Tryz.prog Sd) (n1 : Sg 18 = none) (h1 : Sg 19 = some (F3 gCopy)) (h2 : Sg 20 = some (F3 gCopy)) (h3 : Sg 12 = some (F2 gEqInts)) (h4 : Sd 13 = some (F2 gLoad)) (h5 : Sd 10 = some (F3 gStore)) (h8 : Sd 17 = some (F1 gOneT)) (h9 : Sd 12 = some (F2 gEqInts)) (hDr : DrPair 18) : ∀ a r, F1 gTrueW a = some r → CSpec Tryz.prog 4 a r := by
  refine F1_spec ?_
  intro bs r hr
  obtain ⟨g1, rfl⟩ := gd_some hr
  refine law3 Tryz.func4 rfl Tryz.pf hS hD ?_
  by_cases hb : 1048576 < bs.length
  · repeat' (first | with_reducible first | refine kI (by kernel_rfl) ?_ | refine kN (by kernel_rfl) ?_ | (first | refine kB1 ?_ ?_ | refine kB2 ?_ ?_) <;> intro hp | (first | refine kD1 ?_ ?_ | refine kD2 ?_ ?_ | refine kS1 ?_ ?_ | refine kS2 ?_ ?_) <;> intro hp <;> try simp only [hp] | simp -implicitDefEqProofs (disch := omega) only [go_sem, Nat.reduceAdd, Nat.reduceSub, reduceCtorEq, Nat.reduceLT, Nat.reduceLeDiff, Nat.reduceEqDiff, Nat.reduceMul, Int.reduceToNat, ↓reduceIte, List.take_of_length_le, if_pos, if_neg, List.getElem?_set_self, List.set_set, cnE, cnV, Tryz.ntmps4, Tryz.results4])
  · repeat' (first | with_reducible first | refine kI (by kernel_rfl) ?_ | refine kN (by kernel_rfl) ?_ | (first | refine kB1 ?_ ?_ | refine kB2 ?_ ?_) <;> intro hp | (first | refine kD1 ?_ ?_ | refine kD2 ?_ ?_ | refine kS1 ?_ ?_ | refine kS2 ?_ ?_) <;> intro hp <;> try simp only [hp] | simp -implicitDefEqProofs (disch := omega) only [go_sem, Nat.reduceAdd, Nat.reduceSub, reduceCtorEq, Nat.reduceLT, Nat.reduceLeDiff, Nat.reduceEqDiff, Nat.reduceMul, Int.reduceToNat, ↓reduceIte, List.take_of_length_le, if_pos, if_neg, List.getElem?_set_self, List.set_set, cnE, cnV, Tryz.ntmps4, Tryz.results4,  n1, opQ_none])
    refine InlK_intro rfl rfl can_DrawCopyView ((hDr bs (by omega) _).mono ?_)
    rintro r L1 ⟨m, a, b, hm60, ⟨⟨k1, k2⟩, k3, k4⟩, rfl, rfl⟩
    have hab : mB2 m a b := ⟨by omega, ⟨by omega, by omega⟩, by omega, by omega⟩
    have q1 := gCopy_eq hab
    unfold cpyR at q1
    cases hc : cpyB m a b with
    | true =>
      rw [hc, if_pos rfl] at q1
      obtain ⟨e1, e2, e3⟩ := cpyB_iff.1 hc
      obtain ⟨f1, f2, f3⟩ := fit_in e1
      obtain ⟨f4, f5, f6⟩ := fit_in e2
      have h6' := offF_60 (vOK f2).1
      have hlo := len_off e3
      have hVl : (tkn m (offF b)).length = (offF a).length := by rw [tkn_len, hlo]
      have hVv := tkn_val f4 f6
      have q4 := gLoad_eq (m := m) (v := b) ⟨hab.1, hab.2.2⟩
      rw [e2, if_pos rfl] at q4
      have q5 := gStore_eq (m := m) (v := a) (V := tkn m (offF b)) ⟨⟨hab.1, hab.2.1⟩, by omega⟩
      unfold storR at q5
      rw [stoB_iff.2 ⟨e1, hVl, hVv⟩, if_pos rfl] at q5
      unfold stoV at q1 q5
      have hmo := sto_mem (A := offF a) f1 hVv (k := (offF a).length) (by omega)
      have hln := stoT_len m (offF a) (tkn m (offF b)) (offF a).length
      have q6 := gLoad_eq (m := stoT m (offF a) (tkn m (offF b)) (offF a).length) (v := a) ⟨by omega, hab.2.1⟩
      rw [hold_of e1 hmo hln, if_pos rfl] at q6
      have q3 := eq_refl_t (a := stoT m (offF a) (tkn m (offF b)) (offF a).length) (by omega)
      have q8 := one_t f2
      have hts := fun hd => tkn_sto (V := tkn m (offF b)) f3 hd hVl
      generalize tkn m (offF b) = V at *
      have q9 := eq_refl_t (a := V) (by omega)
      have htl := tkn_len (stoT m (offF a) V (offF a).length) (offF a)
      generalize stoT m (offF a) V (offF a).length = O at *
      cases hd : diffF (offF a) with
      | false =>
        rw [hd] at q8
        repeat' (first | with_reducible first | refine kI (by kernel_rfl) ?_ | refine kN (by kernel_rfl) ?_ | (first | refine kB1 ?_ ?_ | refine kB2 ?_ ?_) <;> intro hp | (first | refine kD1 ?_ ?_ | refine kD2 ?_ ?_ | refine kS1 ?_ ?_ | refine kS2 ?_ ?_) <;> intro hp <;> try simp only [hp] | simp -implicitDefEqProofs (disch := omega) only [go_sem, Nat.reduceAdd, Nat.reduceSub, reduceCtorEq, Nat.reduceLT, Nat.reduceLeDiff, Nat.reduceEqDiff, Nat.reduceMul, Int.reduceToNat, ↓reduceIte, List.take_of_length_le, if_pos, if_neg, List.getElem?_set_self, List.set_set, cnE, cnV, Tryz.ntmps4, Tryz.results4,  h1, q1, h2, h3, q3, h4, q4, h5, q5, h8, q8, h9])
      | true =>
        rw [hd] at q8
        rw [hts hd] at q6
        repeat' (first | with_reducible first | refine kI (by kernel_rfl) ?_ | refine kN (by kernel_rfl) ?_ | (first | refine kB1 ?_ ?_ | refine kB2 ?_ ?_) <;> intro hp | (first | refine kD1 ?_ ?_ | refine kD2 ?_ ?_ | refine kS1 ?_ ?_ | refine kS2 ?_ ?_) <;> intro hp <;> try simp only [hp] | simp -implicitDefEqProofs (disch := omega) only [go_sem, Nat.reduceAdd, Nat.reduceSub, reduceCtorEq, Nat.reduceLT, Nat.reduceLeDiff, Nat.reduceEqDiff, Nat.reduceMul, Int.reduceToNat, ↓reduceIte, List.take_of_length_le, if_pos, if_neg, List.getElem?_set_self, List.set_set, cnE, cnV, Tryz.ntmps4, Tryz.results4,  h1, q1, h2, h3, q3, h4, q4, h5, q5, h8, q8, h9, q6, q9])
    | false =>
      rw [hc, if_neg (by simp)] at q1
      have q3 := eq_nil_t
      repeat' (first | with_reducible first | refine kI (by kernel_rfl) ?_ | refine kN (by kernel_rfl) ?_ | (first | refine kB1 ?_ ?_ | refine kB2 ?_ ?_) <;> intro hp | (first | refine kD1 ?_ ?_ | refine kD2 ?_ ?_ | refine kS1 ?_ ?_ | refine kS2 ?_ ?_) <;> intro hp <;> try simp only [hp] | simp -implicitDefEqProofs (disch := omega) only [go_sem, Nat.reduceAdd, Nat.reduceSub, reduceCtorEq, Nat.reduceLT, Nat.reduceLeDiff, Nat.reduceEqDiff, Nat.reduceMul, Int.reduceToNat, ↓reduceIte, List.take_of_length_le, if_pos, if_neg, List.getElem?_set_self, List.set_set, cnE, cnV, Tryz.ntmps4, Tryz.results4,  h1, q1, h2, h3, q3, dec_i0])
set_option maxHeartbeats 8000000 in
set_option maxRecDepth 100000 in
theorem law_CopyForward {Sg Sd : FuncId → Option (List AV → Option AV)} (hS : Sound Tryz.prog Sg) (hD : Sound Tryz.prog Sd) (n1 : Sg 21 = none) (h1 : Sg 22 = some (F3 gFwd)) (h2 : Sg 23 = some (F3 gFwd)) (h3 : Sg 12 = some (F2 gEqInts)) (h4 : Sg 19 = some (F3 gCopy)) (h5 : Sd 24 = some (F2 gWay)) (h6 : Sd 12 = some (F2 gEqInts)) (h7 : Sd 15 = some (F2 gChg)) (h8 : Sd 16 = some (F1 gCellsT)) (h9 : Sd 14 = some (F2 gWithin)) (hDr : DrPair 21) : ∀ a r, F1 gTrueW a = some r → CSpec Tryz.prog 7 a r := by
  refine F1_spec ?_
  intro bs r hr
  obtain ⟨g1, rfl⟩ := gd_some hr
  refine law3 Tryz.func7 rfl Tryz.pf hS hD ?_
  by_cases hb : 1048576 < bs.length
  · repeat' (first | with_reducible first | refine kI (by kernel_rfl) ?_ | refine kN (by kernel_rfl) ?_ | (first | refine kB1 ?_ ?_ | refine kB2 ?_ ?_) <;> intro hp | (first | refine kD1 ?_ ?_ | refine kD2 ?_ ?_ | refine kS1 ?_ ?_ | refine kS2 ?_ ?_) <;> intro hp <;> try simp only [hp] | simp -implicitDefEqProofs (disch := omega) only [go_sem, Nat.reduceAdd, Nat.reduceSub, reduceCtorEq, Nat.reduceLT, Nat.reduceLeDiff, Nat.reduceEqDiff, Nat.reduceMul, Int.reduceToNat, ↓reduceIte, List.take_of_length_le, if_pos, if_neg, List.getElem?_set_self, List.set_set, cnE, cnV, Tryz.ntmps7, Tryz.results7])
  · repeat' (first | with_reducible first | refine kI (by kernel_rfl) ?_ | refine kN (by kernel_rfl) ?_ | (first | refine kB1 ?_ ?_ | refine kB2 ?_ ?_) <;> intro hp | (first | refine kD1 ?_ ?_ | refine kD2 ?_ ?_ | refine kS1 ?_ ?_ | refine kS2 ?_ ?_) <;> intro hp <;> try simp only [hp] | simp -implicitDefEqProofs (disch := omega) only [go_sem, Nat.reduceAdd, Nat.reduceSub, reduceCtorEq, Nat.reduceLT, Nat.reduceLeDiff, Nat.reduceEqDiff, Nat.reduceMul, Int.reduceToNat, ↓reduceIte, List.take_of_length_le, if_pos, if_neg, List.getElem?_set_self, List.set_set, cnE, cnV, Tryz.ntmps7, Tryz.results7,  n1, opQ_none])
    refine InlK_intro rfl rfl can_DrawCopyForward ((hDr bs (by omega) _).mono ?_)
    rintro r L1 ⟨m, a, b, hm60, ⟨⟨k1, k2⟩, k3, k4⟩, rfl, rfl⟩
    have hab : mB2 m a b := ⟨by omega, ⟨by omega, by omega⟩, by omega, by omega⟩
    have q1 := gFwd_eq hab
    unfold fwdR at q1
    cases hc : cpyB m a b with
    | true =>
      rw [hc, if_pos rfl] at q1
      obtain ⟨e1, e2, e3⟩ := cpyB_iff.1 hc
      obtain ⟨f1, f2, f3⟩ := fit_in e1
      obtain ⟨f4, f5, f6⟩ := fit_in e2
      have h6' := offF_60 (vOK f2).1
      have hlo := len_off e3
      have q4 := gCopy_eq hab
      unfold cpyR at q4
      rw [hc, if_pos rfl] at q4
      unfold stoV at q4
      have q5 := gWay_eq hab.2
      rw [way_yes f2 f5 e3] at q5
      have q8 := gCellsT_eq hab.2.1
      rw [f2, if_pos rfl] at q8
      have hsl := srt_len (offF a)
      have hul := upV_len (offF a).length
      have hch := within_srt (chg_cp (m := m) (B := offF b) f3 (upV_in (offF a).length) (k := (offF a).length) (by omega))
      have hcl := chgF_len (a := m) (b := cpT m (offF a) (offF b) (upV (offF a).length) (offF a).length) hm60
      have hcpl := cpT_len m (offF a) (offF b) (upV (offF a).length) (offF a).length
      have hstl := stoT_len m (offF a) (tkn m (offF b)) (offF a).length
      have q7 := gChg_eq (a := m) (b := cpT m (offF a) (offF b) (upV (offF a).length) (offF a).length) ⟨by omega, by omega⟩
      have q9 := (gWithin_eq (a := chgF m (cpT m (offF a) (offF b) (upV (offF a).length) (offF a).length)) (b := srt (offF a)) ⟨by omega, by omega⟩).trans (by rw [hch])
      have hfw := cp_fwd (m := m) f3 f6 hlo
      have hw := wayL_cases (offF a) (offF b)
      have hw0 : wayL (offF a) (offF b) = 0 → latB (offF a) (offF b) (offF a).length = false := fun h => by
        cases hl : latB (offF a) (offF b) (offF a).length with
        | false => rfl
        | true =>
          unfold wayL at h
          rw [hl, if_neg (by simp)] at h
          split at h <;> omega
      have q3 := eq_refl_t (a := cpT m (offF a) (offF b) (upV (offF a).length) (offF a).length) (by omega)
      generalize chgF m (cpT m (offF a) (offF b) (upV (offF a).length) (offF a).length) = C at *
      by_cases hz : wayL (offF a) (offF b) = 0
      · rw [← hfw (hw0 hz) _ (Nat.le_refl _)] at q4
        rw [hz] at q5
        generalize cpT m (offF a) (offF b) (upV (offF a).length) (offF a).length = O at *
        repeat' (first | with_reducible first | refine kI (by kernel_rfl) ?_ | refine kN (by kernel_rfl) ?_ | (first | refine kB1 ?_ ?_ | refine kB2 ?_ ?_) <;> intro hp | (first | refine kD1 ?_ ?_ | refine kD2 ?_ ?_ | refine kS1 ?_ ?_ | refine kS2 ?_ ?_) <;> intro hp <;> try simp only [hp] | simp -implicitDefEqProofs (disch := omega) only [go_sem, Nat.reduceAdd, Nat.reduceSub, reduceCtorEq, Nat.reduceLT, Nat.reduceLeDiff, Nat.reduceEqDiff, Nat.reduceMul, Int.reduceToNat, ↓reduceIte, List.take_of_length_le, if_pos, if_neg, List.getElem?_set_self, List.set_set, cnE, cnV, Tryz.ntmps7, Tryz.results7,  h1, q1, h2, h3, q3, h4, q4, h5, q5, h6, h7, q7, h8, q8, h9, q9])
      · generalize cpT m (offF a) (offF b) (upV (offF a).length) (offF a).length = O at *
        generalize stoT m (offF a) (tkn m (offF b)) (offF a).length = O2 at *
        have hz' : (wayL (offF a) (offF b) == 0) = false := beq_f hz
        generalize wayL (offF a) (offF b) = w at *
        repeat' (first | with_reducible first | refine kI (by kernel_rfl) ?_ | refine kN (by kernel_rfl) ?_ | (first | refine kB1 ?_ ?_ | refine kB2 ?_ ?_) <;> intro hp | (first | refine kD1 ?_ ?_ | refine kD2 ?_ ?_ | refine kS1 ?_ ?_ | refine kS2 ?_ ?_) <;> intro hp <;> try simp only [hp] | simp -implicitDefEqProofs (disch := omega) only [go_sem, Nat.reduceAdd, Nat.reduceSub, reduceCtorEq, Nat.reduceLT, Nat.reduceLeDiff, Nat.reduceEqDiff, Nat.reduceMul, Int.reduceToNat, ↓reduceIte, List.take_of_length_le, if_pos, if_neg, List.getElem?_set_self, List.set_set, cnE, cnV, Tryz.ntmps7, Tryz.results7,  h1, q1, h2, h3, q3, h4, q4, h5, q5, hz', h7, q7, h8, q8, h9, q9])
    | false =>
      rw [hc, if_neg (by simp)] at q1
      have q3 := eq_nil_t
      repeat' (first | with_reducible first | refine kI (by kernel_rfl) ?_ | refine kN (by kernel_rfl) ?_ | (first | refine kB1 ?_ ?_ | refine kB2 ?_ ?_) <;> intro hp | (first | refine kD1 ?_ ?_ | refine kD2 ?_ ?_ | refine kS1 ?_ ?_ | refine kS2 ?_ ?_) <;> intro hp <;> try simp only [hp] | simp -implicitDefEqProofs (disch := omega) only [go_sem, Nat.reduceAdd, Nat.reduceSub, reduceCtorEq, Nat.reduceLT, Nat.reduceLeDiff, Nat.reduceEqDiff, Nat.reduceMul, Int.reduceToNat, ↓reduceIte, List.take_of_length_le, if_pos, if_neg, List.getElem?_set_self, List.set_set, cnE, cnV, Tryz.ntmps7, Tryz.results7,  h1, q1, h2, h3, q3, dec_i0])
end Go.Proofs.YtgpflkmelindfaaGreat
namespace Go.Proofs.YtgpflkmelindfaaGreat
open Go Go.Ev Go.RowKit Go.Ev.Enc Go.Pl

theorem iota_ok {n : Nat} (h : n ≤ 60) : memOK (upV n) = true := memOK_iff.2 ⟨by rw [upV_len]; exact h, fun x hx => by have := upV_mem.1 hx; omega⟩
theorem way_zero {A B : List Int} : (wayL A B == 0) = !latB A B A.length := by
  cases hl : latB A B A.length with
  | false => rw [wayL_0 hl]; rfl
  | true =>
    refine beq_f fun h => ?_
    unfold wayL at h
    rw [hl, if_neg (by simp)] at h
    split at h <;> omega
set_option maxHeartbeats 8000000 in
set_option maxRecDepth 100000 in
theorem law_CopyForwardWrong {Sg Sd : FuncId → Option (List AV → Option AV)} (hS : Sound Tryz.prog Sg) (hD : Sound Tryz.prog Sd) (n1 : Sg 21 = none) (h1 : Sg 22 = some (F3 gFwd)) (h2 : Sg 23 = some (F3 gFwd)) (h3 : Sg 12 = some (F2 gEqInts)) (h4 : Sg 19 = some (F3 gCopy)) (h5 : Sg 17 = some (F1 gOneT)) (h6 : Sd 24 = some (F2 gWay)) (h7 : Sd 12 = some (F2 gEqInts)) (hDr : DrPair 21) : ∀ a r, F1 gTrueW a = some r → CSpec Tryz.prog 5 a r := by
  refine F1_spec ?_
  intro bs r hr
  obtain ⟨g1, rfl⟩ := gd_some hr
  refine law3 Tryz.func5 rfl Tryz.pf hS hD ?_
  by_cases hb : 1048576 < bs.length
  · repeat' (first | with_reducible first | refine kI (by kernel_rfl) ?_ | refine kN (by kernel_rfl) ?_ | (first | refine kB1 ?_ ?_ | refine kB2 ?_ ?_) <;> intro hp | (first | refine kD1 ?_ ?_ | refine kD2 ?_ ?_ | refine kS1 ?_ ?_ | refine kS2 ?_ ?_) <;> intro hp <;> try simp only [hp] | simp -implicitDefEqProofs (disch := omega) only [go_sem, Nat.reduceAdd, Nat.reduceSub, reduceCtorEq, Nat.reduceLT, Nat.reduceLeDiff, Nat.reduceEqDiff, Nat.reduceMul, Int.reduceToNat, ↓reduceIte, List.take_of_length_le, if_pos, if_neg, List.getElem?_set_self, List.set_set, cnE, cnV, Tryz.ntmps5, Tryz.results5])
  · repeat' (first | with_reducible first | refine kI (by kernel_rfl) ?_ | refine kN (by kernel_rfl) ?_ | (first | refine kB1 ?_ ?_ | refine kB2 ?_ ?_) <;> intro hp | (first | refine kD1 ?_ ?_ | refine kD2 ?_ ?_ | refine kS1 ?_ ?_ | refine kS2 ?_ ?_) <;> intro hp <;> try simp only [hp] | simp -implicitDefEqProofs (disch := omega) only [go_sem, Nat.reduceAdd, Nat.reduceSub, reduceCtorEq, Nat.reduceLT, Nat.reduceLeDiff, Nat.reduceEqDiff, Nat.reduceMul, Int.reduceToNat, ↓reduceIte, List.take_of_length_le, if_pos, if_neg, List.getElem?_set_self, List.set_set, cnE, cnV, Tryz.ntmps5, Tryz.results5,  n1, opQ_none])
    refine InlK_intro rfl rfl can_DrawCopyForward ((hDr bs (by omega) _).mono ?_)
    rintro r L1 ⟨m, a, b, hm60, ⟨⟨k1, k2⟩, k3, k4⟩, rfl, rfl⟩
    have hab : mB2 m a b := ⟨by omega, ⟨by omega, by omega⟩, by omega, by omega⟩
    have q1 := gFwd_eq hab
    unfold fwdR at q1
    cases hc : cpyB m a b with
    | true =>
      rw [hc, if_pos rfl] at q1
      obtain ⟨e1, e2, e3⟩ := cpyB_iff.1 hc
      obtain ⟨f1, f2, f3⟩ := fit_in e1
      obtain ⟨f4, f5, f6⟩ := fit_in e2
      have h6' := offF_60 (vOK f2).1
      have hlo := len_off e3
      have hcpl := cpT_len m (offF a) (offF b) (upV (offF a).length) (offF a).length
      have q3 := eq_refl_t (a := cpT m (offF a) (offF b) (upV (offF a).length) (offF a).length) (by omega)
      have q5 := one_t f2
      have q6 := one_t f5
      have hll : (((cpT m (offF a) (offF b) (upV (offF a).length) (offF a).length).length : Int) == (m.length : Int)) = true := beq_t (by omega)
      cases hd : diffF (offF a) with
      | false =>
        rw [hd] at q5
        generalize cpT m (offF a) (offF b) (upV (offF a).length) (offF a).length = O at *
        repeat' (first | with_reducible first | refine kI (by kernel_rfl) ?_ | refine kN (by kernel_rfl) ?_ | (first | refine kB1 ?_ ?_ | refine kB2 ?_ ?_) <;> intro hp | (first | refine kD1 ?_ ?_ | refine kD2 ?_ ?_ | refine kS1 ?_ ?_ | refine kS2 ?_ ?_) <;> intro hp <;> try simp only [hp] | simp -implicitDefEqProofs (disch := omega) only [go_sem, Nat.reduceAdd, Nat.reduceSub, reduceCtorEq, Nat.reduceLT, Nat.reduceLeDiff, Nat.reduceEqDiff, Nat.reduceMul, Int.reduceToNat, ↓reduceIte, List.take_of_length_le, if_pos, if_neg, List.getElem?_set_self, List.set_set, cnE, cnV, Tryz.ntmps5, Tryz.results5,  h1, q1, h2, h3, q3, h5, q5, hll])
      | true =>
        rw [hd] at q5
        cases he : diffF (offF b) with
        | false =>
          rw [he] at q6
          generalize cpT m (offF a) (offF b) (upV (offF a).length) (offF a).length = O at *
          repeat' (first | with_reducible first | refine kI (by kernel_rfl) ?_ | refine kN (by kernel_rfl) ?_ | (first | refine kB1 ?_ ?_ | refine kB2 ?_ ?_) <;> intro hp | (first | refine kD1 ?_ ?_ | refine kD2 ?_ ?_ | refine kS1 ?_ ?_ | refine kS2 ?_ ?_) <;> intro hp <;> try simp only [hp] | simp -implicitDefEqProofs (disch := omega) only [go_sem, Nat.reduceAdd, Nat.reduceSub, reduceCtorEq, Nat.reduceLT, Nat.reduceLeDiff, Nat.reduceEqDiff, Nat.reduceMul, Int.reduceToNat, ↓reduceIte, List.take_of_length_le, if_pos, if_neg, List.getElem?_set_self, List.set_set, cnE, cnV, Tryz.ntmps5, Tryz.results5,  h1, q1, h2, h3, q3, h5, q5, q6, hll])
        | true =>
          rw [he] at q6
          have hio := iota_ok hm60
          have hil := upV_len m.length
          have c1 : cpyB (upV m.length) a b = true := cpyB_iff.2 ⟨hold_of e1 hio hil, hold_of e2 hio hil, e3⟩
          have p1 := gFwd_eq (m := upV m.length) (a := a) (b := b) ⟨by omega, hab.2⟩
          have p2 := gCopy_eq (m := upV m.length) (a := a) (b := b) ⟨by omega, hab.2⟩
          unfold fwdR at p1
          unfold cpyR at p2
          rw [c1, if_pos rfl] at p1 p2
          unfold stoV at p2
          have p3 := gWay_eq hab.2
          rw [way_yes f2 f5 e3] at p3
          have hcw := cp_wrong f3 f6 hlo hd he
          have hwz := way_zero (A := offF a) (B := offF b)
          have hl1 := cpT_len (upV m.length) (offF a) (offF b) (upV (offF a).length) (offF a).length
          have hl2 := stoT_len (upV m.length) (offF a) (tkn (upV m.length) (offF b)) (offF a).length
          have p4 := gEqInts_eq (a := cpT (upV m.length) (offF a) (offF b) (upV (offF a).length) (offF a).length) (b := stoT (upV m.length) (offF a) (tkn (upV m.length) (offF b)) (offF a).length) ⟨by omega, by omega⟩
          rw [hcw] at p4
          generalize cpT (upV m.length) (offF a) (offF b) (upV (offF a).length) (offF a).length = O1 at *
          generalize stoT (upV m.length) (offF a) (tkn (upV m.length) (offF b)) (offF a).length = O2 at *
          generalize cpT m (offF a) (offF b) (upV (offF a).length) (offF a).length = O at *
          generalize latB (offF a) (offF b) (offF a).length = la at *
          generalize wayL (offF a) (offF b) = w at *
          repeat' (first | with_reducible first | refine kI (by kernel_rfl) ?_ | refine kN (by kernel_rfl) ?_ | (first | refine kB1 ?_ ?_ | refine kB2 ?_ ?_) <;> intro hp | (first | refine kD1 ?_ ?_ | refine kD2 ?_ ?_ | refine kS1 ?_ ?_ | refine kS2 ?_ ?_) <;> intro hp <;> try simp only [hp] | simp -implicitDefEqProofs (disch := omega) only [go_sem, Nat.reduceAdd, Nat.reduceSub, reduceCtorEq, Nat.reduceLT, Nat.reduceLeDiff, Nat.reduceEqDiff, Nat.reduceMul, Int.reduceToNat, ↓reduceIte, List.take_of_length_le, if_pos, if_neg, List.getElem?_set_self, List.set_set, cnE, cnV, Tryz.ntmps5, Tryz.results5,  h1, q1, h2, h3, q3, h5, q5, q6])
          refine LoopQ.mix (fun t0 L0 nn ss => ∃ (k : Nat) (q : List Int) (_ : Unit), (∃ x : Nat → AV, ss = ⟨mixL 0 (.k :: .k :: .k :: .k :: .k :: .k :: .k :: .k :: .k :: .k :: .v (.sl 2 k 0 k k) :: .v (i64 (k : Nat)) :: .k :: .k :: .k :: .k :: .k :: .k :: .k :: .k :: .k :: .k :: .k :: .k :: .k :: .k :: .k :: .k :: .k :: .k :: .k :: .k :: .k :: .k :: .k :: .k :: .k :: .k :: .k :: .k :: .k :: .k :: .k :: .k :: .k :: .k :: .k :: .k :: .k :: .k :: .k :: .k :: .k :: .k :: .k :: .k :: .k :: .k :: .k :: .k :: .k :: .k :: .k :: .k :: .k :: .k :: .k :: .k :: .k :: .k :: .k :: .k :: .k :: .k :: .s :: .s :: .s :: .s :: .s :: .s :: .s :: .s :: .s :: .s :: .k :: .k :: .k :: .k :: .k :: .k :: .k :: .k :: .k :: .k :: .k :: .k :: .k :: .k :: .k :: .k :: .k :: .k :: .k :: .k :: .k :: .k :: .k :: .k :: .k :: .k :: .k :: .k :: []) t0 x, [⟨3, [viD a]⟩, ⟨3, [viD b]⟩, ⟨1, q.map fun n => .int .i64 n⟩]⟩) ∧ (k ≤ m.length) ∧ (q.length = k) ∧ (q = upV k) ∧ nn = m.length - k) ?_ ?_
          · exact ⟨_, ⟨0, [], (), mixI rfl, Nat.zero_le _, rfl, rfl, rfl⟩⟩
          · rintro I0 hI0 nn s ⟨k, q, _, ⟨x, rfl⟩, m1, m2, m3, rfl⟩
            by_cases hk : k < m.length
            · have hki : (k : Int) < (m.length : Int) := by omega
              have hs := upV_snoc k
              rw [← m3] at hs
              repeat' (first | with_reducible first | refine kI (by kernel_rfl) ?_ | refine kN (by kernel_rfl) ?_ | (first | refine kB1 ?_ ?_ | refine kB2 ?_ ?_) <;> intro hp | (first | refine kD1 ?_ ?_ | refine kD2 ?_ ?_ | refine kS1 ?_ ?_ | refine kS2 ?_ ?_) <;> intro hp <;> try simp only [hp] | simp -implicitDefEqProofs (disch := omega) only [go_sem, Nat.reduceAdd, Nat.reduceSub, reduceCtorEq, Nat.reduceLT, Nat.reduceLeDiff, Nat.reduceEqDiff, Nat.reduceMul, Int.reduceToNat, ↓reduceIte, List.take_of_length_le, if_pos, if_neg, List.getElem?_set_self, List.set_set, cnE, cnV, Tryz.ntmps5, Tryz.results5,  hki])
              exact ⟨m.length - (k + 1), by omega, hI0 _ _ ⟨k + 1, q ++ [(k : Int)], (), mixI rfl, hk, by simp [m2], hs, rfl⟩⟩
            · obtain rfl : k = m.length := by omega
              subst m3
              cases la with
              | true =>
                repeat' (first | with_reducible first | refine kI (by kernel_rfl) ?_ | refine kN (by kernel_rfl) ?_ | (first | refine kB1 ?_ ?_ | refine kB2 ?_ ?_) <;> intro hp | (first | refine kD1 ?_ ?_ | refine kD2 ?_ ?_ | refine kS1 ?_ ?_ | refine kS2 ?_ ?_) <;> intro hp <;> try simp only [hp] | simp -implicitDefEqProofs (disch := omega) only [go_sem, Nat.reduceAdd, Nat.reduceSub, reduceCtorEq, Nat.reduceLT, Nat.reduceLeDiff, Nat.reduceEqDiff, Nat.reduceMul, Int.reduceToNat, ↓reduceIte, List.take_of_length_le, if_pos, if_neg, List.getElem?_set_self, List.set_set, cnE, cnV, Tryz.ntmps5, Tryz.results5,  hil, h1, p1, h4, p2, h7, p4, h6, p3, hwz])
              | false =>
                repeat' (first | with_reducible first | refine kI (by kernel_rfl) ?_ | refine kN (by kernel_rfl) ?_ | (first | refine kB1 ?_ ?_ | refine kB2 ?_ ?_) <;> intro hp | (first | refine kD1 ?_ ?_ | refine kD2 ?_ ?_ | refine kS1 ?_ ?_ | refine kS2 ?_ ?_) <;> intro hp <;> try simp only [hp] | simp -implicitDefEqProofs (disch := omega) only [go_sem, Nat.reduceAdd, Nat.reduceSub, reduceCtorEq, Nat.reduceLT, Nat.reduceLeDiff, Nat.reduceEqDiff, Nat.reduceMul, Int.reduceToNat, ↓reduceIte, List.take_of_length_le, if_pos, if_neg, List.getElem?_set_self, List.set_set, cnE, cnV, Tryz.ntmps5, Tryz.results5,  hil, h1, p1, h4, p2, h7, p4, h6, p3, hwz])
    | false =>
      rw [hc, if_neg (by simp)] at q1
      have q3 := eq_nil_t
      repeat' (first | with_reducible first | refine kI (by kernel_rfl) ?_ | refine kN (by kernel_rfl) ?_ | (first | refine kB1 ?_ ?_ | refine kB2 ?_ ?_) <;> intro hp | (first | refine kD1 ?_ ?_ | refine kD2 ?_ ?_ | refine kS1 ?_ ?_ | refine kS2 ?_ ?_) <;> intro hp <;> try simp only [hp] | simp -implicitDefEqProofs (disch := omega) only [go_sem, Nat.reduceAdd, Nat.reduceSub, reduceCtorEq, Nat.reduceLT, Nat.reduceLeDiff, Nat.reduceEqDiff, Nat.reduceMul, Int.reduceToNat, ↓reduceIte, List.take_of_length_le, if_pos, if_neg, List.getElem?_set_self, List.set_set, cnE, cnV, Tryz.ntmps5, Tryz.results5,  h1, q1, h2, h3, q3, dec_i0])
theorem swpB_iff {m : List Int} {a b : Vi} : swpB m a b = true ↔ cpyB m a b = true ∧ ¬ 0 < (bothF (offF a) (offF b)).length ∧ diffF (offF a) = true ∧ diffF (offF b) = true := by
  unfold swpB
  simp only [Bool.and_eq_true, Bool.not_eq_true', decide_eq_false_iff_not]
set_option maxHeartbeats 8000000 in
set_option maxRecDepth 100000 in
theorem law_SwapViews {Sg Sd : FuncId → Option (List AV → Option AV)} (hS : Sound Tryz.prog Sg) (hD : Sound Tryz.prog Sd) (n1 : Sg 25 = none) (h1 : Sg 26 = some (F3 gSwap)) (h2 : Sg 27 = some (F3 gSwap)) (h3 : Sg 12 = some (F2 gEqInts)) (h4 : Sd 13 = some (F2 gLoad)) (h5 : Sd 12 = some (F2 gEqInts)) (hDr : DrPairT 25) : ∀ a r, F1 gTrueW a = some r → CSpec Tryz.prog 6 a r := by
  refine F1_spec ?_
  intro bs r hr
  obtain ⟨g1, rfl⟩ := gd_some hr
  refine law3 Tryz.func6 rfl Tryz.pf hS hD ?_
  by_cases hb : 1048576 < bs.length
  · repeat' (first | with_reducible first | refine kI (by kernel_rfl) ?_ | refine kN (by kernel_rfl) ?_ | (first | refine kB1 ?_ ?_ | refine kB2 ?_ ?_) <;> intro hp | (first | refine kD1 ?_ ?_ | refine kD2 ?_ ?_ | refine kS1 ?_ ?_ | refine kS2 ?_ ?_) <;> intro hp <;> try simp only [hp] | simp -implicitDefEqProofs (disch := omega) only [go_sem, Nat.reduceAdd, Nat.reduceSub, reduceCtorEq, Nat.reduceLT, Nat.reduceLeDiff, Nat.reduceEqDiff, Nat.reduceMul, Int.reduceToNat, ↓reduceIte, List.take_of_length_le, if_pos, if_neg, List.getElem?_set_self, List.set_set, cnE, cnV, Tryz.ntmps6, Tryz.results6])
  · repeat' (first | with_reducible first | refine kI (by kernel_rfl) ?_ | refine kN (by kernel_rfl) ?_ | (first | refine kB1 ?_ ?_ | refine kB2 ?_ ?_) <;> intro hp | (first | refine kD1 ?_ ?_ | refine kD2 ?_ ?_ | refine kS1 ?_ ?_ | refine kS2 ?_ ?_) <;> intro hp <;> try simp only [hp] | simp -implicitDefEqProofs (disch := omega) only [go_sem, Nat.reduceAdd, Nat.reduceSub, reduceCtorEq, Nat.reduceLT, Nat.reduceLeDiff, Nat.reduceEqDiff, Nat.reduceMul, Int.reduceToNat, ↓reduceIte, List.take_of_length_le, if_pos, if_neg, List.getElem?_set_self, List.set_set, cnE, cnV, Tryz.ntmps6, Tryz.results6,  n1, opQ_none])
    refine InlK_intro rfl rfl can_DrawSwapViews ((hDr bs (by omega) _).mono ?_)
    rintro r L1 ⟨m, a, b, t, hm60, ⟨⟨k1, k2⟩, k3, k4⟩, rfl, rfl⟩
    have hab : mB2 m a b := ⟨by omega, ⟨by omega, by omega⟩, by omega, by omega⟩
    have q1 := gSwap_eq hab
    unfold swpR at q1
    cases hc : swpB m a b with
    | true =>
      rw [hc, if_pos rfl] at q1
      obtain ⟨e0, z0, d1, d2⟩ := swpB_iff.1 hc
      obtain ⟨e1, e2, e3⟩ := cpyB_iff.1 e0
      obtain ⟨f1, f2, f3⟩ := fit_in e1
      obtain ⟨f4, f5, f6⟩ := fit_in e2
      have h6' := offF_60 (vOK f2).1
      have hlo := len_off e3
      have hla : (tkn m (offF b)).length = (offF a).length := by rw [tkn_len, hlo]
      have hlb : (tkn m (offF a)).length = (offF b).length := by rw [tkn_len, hlo]
      have s1 := sto_hold e1 hla (tkn_val f4 f6)
      have s2 := sto_hold e2 hla (tkn_val f4 f6)
      have s3 := sto_hold s1 hlb (tkn_val f1 f3)
      have s4 := sto_hold s2 hlb (tkn_val f1 f3)
      have hO : swpL m a b = stoT (stoT m (offF a) (tkn m (offF b)) (offF a).length) (offF b) (tkn m (offF a)) (offF b).length := rfl
      obtain ⟨t1, t2, t3⟩ := swap_twice f3 f6 (offF_in f2) hlo z0 d1 d2 hO.symm
      have hOl : (swpL m a b).length = m.length := by rw [hO, stoT_len, stoT_len]
      have c2 : swpB (swpL m a b) a b = true := swpB_iff.2 ⟨cpyB_iff.2 ⟨s3, s4, e3⟩, z0, d1, d2⟩
      have q2 := gSwap_eq (m := swpL m a b) (a := a) (b := b) ⟨by omega, hab.2⟩
      unfold swpR at q2
      rw [c2, if_pos rfl] at q2
      rw [show swpL (swpL m a b) a b = m from t1] at q2
      have q4 := gLoad_eq (m := m) (v := a) ⟨hab.1, hab.2.1⟩
      rw [e1, if_pos rfl] at q4
      have q5 := gLoad_eq (m := m) (v := b) ⟨hab.1, hab.2.2⟩
      rw [e2, if_pos rfl] at q5
      have q6 := gLoad_eq (m := swpL m a b) (v := a) ⟨by omega, hab.2.1⟩
      rw [show holdB (swpL m a b) a = true from s3, if_pos rfl, t2] at q6
      have q7 := gLoad_eq (m := swpL m a b) (v := b) ⟨by omega, hab.2.2⟩
      rw [show holdB (swpL m a b) b = true from s4, if_pos rfl, t3] at q7
      have q3 := eq_refl_t (a := swpL m a b) (by omega)
      generalize swpL m a b = O at *
      have p1 := eq_refl_t (a := m) (by omega)
      have p2 := eq_refl_t (a := tkn m (offF a)) (by omega)
      have p3 := eq_refl_t (a := tkn m (offF b)) (by omega)
      generalize tkn m (offF a) = VA at *
      generalize tkn m (offF b) = VB at *
      repeat' (first | with_reducible first | refine kI (by kernel_rfl) ?_ | refine kN (by kernel_rfl) ?_ | (first | refine kB1 ?_ ?_ | refine kB2 ?_ ?_) <;> intro hp | (first | refine kD1 ?_ ?_ | refine kD2 ?_ ?_ | refine kS1 ?_ ?_ | refine kS2 ?_ ?_) <;> intro hp <;> try simp only [hp] | simp -implicitDefEqProofs (disch := omega) only [go_sem, Nat.reduceAdd, Nat.reduceSub, reduceCtorEq, Nat.reduceLT, Nat.reduceLeDiff, Nat.reduceEqDiff, Nat.reduceMul, Int.reduceToNat, ↓reduceIte, List.take_of_length_le, if_pos, if_neg, List.getElem?_set_self, List.set_set, cnE, cnV, Tryz.ntmps6, Tryz.results6,  h1, q1, h2, h3, q3, q2, h4, q4, q5, q6, q7, h5, p1, p2, p3])
    | false =>
      rw [hc, if_neg (by simp)] at q1
      have q3 := eq_nil_t
      repeat' (first | with_reducible first | refine kI (by kernel_rfl) ?_ | refine kN (by kernel_rfl) ?_ | (first | refine kB1 ?_ ?_ | refine kB2 ?_ ?_) <;> intro hp | (first | refine kD1 ?_ ?_ | refine kD2 ?_ ?_ | refine kS1 ?_ ?_ | refine kS2 ?_ ?_) <;> intro hp <;> try simp only [hp] | simp -implicitDefEqProofs (disch := omega) only [go_sem, Nat.reduceAdd, Nat.reduceSub, reduceCtorEq, Nat.reduceLT, Nat.reduceLeDiff, Nat.reduceEqDiff, Nat.reduceMul, Int.reduceToNat, ↓reduceIte, List.take_of_length_le, if_pos, if_neg, List.getElem?_set_self, List.set_set, cnE, cnV, Tryz.ntmps6, Tryz.results6,  h1, q1, h2, h3, q3, dec_i0])
set_option maxHeartbeats 8000000 in
set_option maxRecDepth 100000 in
theorem law_CopyBackward {Sg Sd : FuncId → Option (List AV → Option AV)} (hS : Sound Tryz.prog Sg) (hD : Sound Tryz.prog Sd) (n1 : Sg 28 = none) (h1 : Sg 29 = some (F3 gBwd)) (h2 : Sg 30 = some (F3 gBwd)) (h3 : Sg 12 = some (F2 gEqInts)) (h4 : Sg 19 = some (F3 gCopy)) (h5 : Sg 24 = some (F2 gWay)) (h6 : Sg 31 = some (F2 gFlipT)) (h7 : Sg 22 = some (F3 gFwd)) (hDr : DrPair 28) : ∀ a r, F1 gTrueW a = some r → CSpec Tryz.prog 8 a r := by
  refine F1_spec ?_
  intro bs r hr
  obtain ⟨g1, rfl⟩ := gd_some hr
  refine law3 Tryz.func8 rfl Tryz.pf hS hD ?_
  by_cases hb : 1048576 < bs.length
  · repeat' (first | with_reducible first | refine kI (by kernel_rfl) ?_ | refine kN (by kernel_rfl) ?_ | (first | refine kB1 ?_ ?_ | refine kB2 ?_ ?_) <;> intro hp | (first | refine kD1 ?_ ?_ | refine kD2 ?_ ?_ | refine kS1 ?_ ?_ | refine kS2 ?_ ?_) <;> intro hp <;> try simp only [hp] | simp -implicitDefEqProofs (disch := omega) only [go_sem, Nat.reduceAdd, Nat.reduceSub, reduceCtorEq, Nat.reduceLT, Nat.reduceLeDiff, Nat.reduceEqDiff, Nat.reduceMul, Int.reduceToNat, ↓reduceIte, List.take_of_length_le, if_pos, if_neg, List.getElem?_set_self, List.set_set, cnE, cnV, Tryz.ntmps8, Tryz.results8])
  · repeat' (first | with_reducible first | refine kI (by kernel_rfl) ?_ | refine kN (by kernel_rfl) ?_ | (first | refine kB1 ?_ ?_ | refine kB2 ?_ ?_) <;> intro hp | (first | refine kD1 ?_ ?_ | refine kD2 ?_ ?_ | refine kS1 ?_ ?_ | refine kS2 ?_ ?_) <;> intro hp <;> try simp only [hp] | simp -implicitDefEqProofs (disch := omega) only [go_sem, Nat.reduceAdd, Nat.reduceSub, reduceCtorEq, Nat.reduceLT, Nat.reduceLeDiff, Nat.reduceEqDiff, Nat.reduceMul, Int.reduceToNat, ↓reduceIte, List.take_of_length_le, if_pos, if_neg, List.getElem?_set_self, List.set_set, cnE, cnV, Tryz.ntmps8, Tryz.results8,  n1, opQ_none])
    refine InlK_intro rfl rfl can_DrawCopyBackward ((hDr bs (by omega) _).mono ?_)
    rintro r L1 ⟨m, a, b, hm60, ⟨⟨k1, k2⟩, k3, k4⟩, rfl, rfl⟩
    have hab : mB2 m a b := ⟨by omega, ⟨by omega, by omega⟩, by omega, by omega⟩
    have q1 := gBwd_eq hab
    unfold bwdR at q1
    cases hc : cpyB m a b with
    | true =>
      rw [hc, if_pos rfl] at q1
      obtain ⟨e1, e2, e3⟩ := cpyB_iff.1 hc
      obtain ⟨f1, f2, f3⟩ := fit_in e1
      obtain ⟨f4, f5, f6⟩ := fit_in e2
      have h6' := offF_60 (vOK f2).1
      have hlo := len_off e3
      have q4 := gCopy_eq hab
      unfold cpyR at q4
      rw [hc, if_pos rfl] at q4
      unfold stoV at q4
      have q5 := gWay_eq hab.2
      rw [way_yes f2 f5 e3] at q5
      have hcpl := cpT_len m (offF a) (offF b) (upV (offF a).length).reverse (offF a).length
      have hstl := stoT_len m (offF a) (tkn m (offF b)) (offF a).length
      have q3 := eq_refl_t (a := cpT m (offF a) (offF b) (upV (offF a).length).reverse (offF a).length) (by omega)
      have hb1 := fun h d => cp_bwd (m := m) f3 f6 hlo h d
      have hw1 : wayL (offF a) (offF b) = 1 → earB (offF a) (offF b) (offF a).length = false ∧ diffF (offF a) = true := fun h => by
        unfold wayL at h
        split at h
        · omega
        · split at h
          · assumption
          · omega
      have hfin : wayL (offF a) (offF b) = 1 → stoT m (offF a) (tkn m (offF b)) (offF a).length = cpT m (offF a) (offF b) (upV (offF a).length).reverse (offF a).length := fun h => (hb1 (hw1 h).1 (hw1 h).2).symm
      have hgo : ∀ O O2 w, stoT m (offF a) (tkn m (offF b)) (offF a).length = O2 → cpT m (offF a) (offF b) (upV (offF a).length).reverse (offF a).length = O → wayL (offF a) (offF b) = w → (w = 1 → O2 = O) := fun O O2 w h1 h2 h3 h => by
        rw [← h1, ← h2]; exact hfin (by rw [h3]; exact h)
      by_cases l1 : a.sh.length = 1
      · have l1' : ((a.sh.length : Int) == 1) = true := beq_t (by omega)
        have l2 : b.sh.length = 1 := by rw [← e3]; exact l1
        have p1 := gFlipT_eq hab.2.1 ((0 : Nat) : Int)
        have p2 := gFlipT_eq hab.2.2 ((0 : Nat) : Int)
        unfold sliR at p1 p2
        rw [if_pos ⟨f2, by unfold inR; simp only [Bool.and_eq_true, decide_eq_true_eq]; omega, flipS_ok⟩, Int.toNat_natCast] at p1
        rw [if_pos ⟨f5, by unfold inR; simp only [Bool.and_eq_true, decide_eq_true_eq]; omega, flipS_ok⟩, Int.toNat_natCast] at p2
        have r1 := flip_line f2 l1
        have r2 := flip_line f5 l2
        have s1 := flip_sh f2 (d := 0) (by omega)
        have s2 := flip_sh f5 (d := 0) (by omega)
        have t1 := flip_hold e1 (d := 0) (by omega)
        have t2 := flip_hold e2 (d := 0) (by omega)
        have o1 := flip_ok f2 (d := 0) (by omega)
        have o2 := flip_ok f5 (d := 0) (by omega)
        generalize slcF a 0 (indF (a.sh.getD 0 0) flipS) = a' at *
        generalize slcF b 0 (indF (b.sh.getD 0 0) flipS) = b' at *
        have p3 : gFlipT a 0 = some (a', true) := p1
        have p4 : gFlipT b 0 = some (b', true) := p2
        have c2 : cpyB m a' b' = true := cpyB_iff.2 ⟨t1, t2, by rw [s1, s2, e3]⟩
        have q7 := gFwd_eq (m := m) (a := a') (b := b') ⟨hab.1, ok_viB o1, ok_viB o2⟩
        unfold fwdR at q7
        rw [c2, if_pos rfl, r1, r2, List.length_reverse, cp_rev hlo _ (Nat.le_refl _)] at q7
        generalize hO : cpT m (offF a) (offF b) (upV (offF a).length).reverse (offF a).length = O at *
        generalize hO2 : stoT m (offF a) (tkn m (offF b)) (offF a).length = O2 at *
        generalize hw : wayL (offF a) (offF b) = w at *
        have hww := hgo O O2 w rfl rfl rfl
        by_cases hz : w = 1
        · obtain rfl := hww hz
          subst hz
          repeat' (first | with_reducible first | refine kI (by kernel_rfl) ?_ | refine kN (by kernel_rfl) ?_ | (first | refine kB1 ?_ ?_ | refine kB2 ?_ ?_) <;> intro hp | (first | refine kD1 ?_ ?_ | refine kD2 ?_ ?_ | refine kS1 ?_ ?_ | refine kS2 ?_ ?_) <;> intro hp <;> try simp only [hp] | simp -implicitDefEqProofs (disch := omega) only [go_sem, Nat.reduceAdd, Nat.reduceSub, reduceCtorEq, Nat.reduceLT, Nat.reduceLeDiff, Nat.reduceEqDiff, Nat.reduceMul, Int.reduceToNat, ↓reduceIte, List.take_of_length_le, if_pos, if_neg, List.getElem?_set_self, List.set_set, cnE, cnV, Tryz.ntmps8, Tryz.results8,  h1, q1, h2, h3, q3, h4, q4, l1', h6, p3, p4, h7, q7, h5, q5])
        · have hz' : (w == 1) = false := beq_f hz
          repeat' (first | with_reducible first | refine kI (by kernel_rfl) ?_ | refine kN (by kernel_rfl) ?_ | (first | refine kB1 ?_ ?_ | refine kB2 ?_ ?_) <;> intro hp | (first | refine kD1 ?_ ?_ | refine kD2 ?_ ?_ | refine kS1 ?_ ?_ | refine kS2 ?_ ?_) <;> intro hp <;> try simp only [hp] | simp -implicitDefEqProofs (disch := omega) only [go_sem, Nat.reduceAdd, Nat.reduceSub, reduceCtorEq, Nat.reduceLT, Nat.reduceLeDiff, Nat.reduceEqDiff, Nat.reduceMul, Int.reduceToNat, ↓reduceIte, List.take_of_length_le, if_pos, if_neg, List.getElem?_set_self, List.set_set, cnE, cnV, Tryz.ntmps8, Tryz.results8,  h1, q1, h2, h3, q3, h4, q4, l1', h6, p3, p4, h7, q7, h5, q5, hz'])
      · have l1' : ((a.sh.length : Int) == 1) = false := beq_f (by omega)
        generalize hO : cpT m (offF a) (offF b) (upV (offF a).length).reverse (offF a).length = O at *
        generalize hO2 : stoT m (offF a) (tkn m (offF b)) (offF a).length = O2 at *
        generalize hw : wayL (offF a) (offF b) = w at *
        have hww := hgo O O2 w rfl rfl rfl
        by_cases hz : w = 1
        · obtain rfl := hww hz
          subst hz
          repeat' (first | with_reducible first | refine kI (by kernel_rfl) ?_ | refine kN (by kernel_rfl) ?_ | (first | refine kB1 ?_ ?_ | refine kB2 ?_ ?_) <;> intro hp | (first | refine kD1 ?_ ?_ | refine kD2 ?_ ?_ | refine kS1 ?_ ?_ | refine kS2 ?_ ?_) <;> intro hp <;> try simp only [hp] | simp -implicitDefEqProofs (disch := omega) only [go_sem, Nat.reduceAdd, Nat.reduceSub, reduceCtorEq, Nat.reduceLT, Nat.reduceLeDiff, Nat.reduceEqDiff, Nat.reduceMul, Int.reduceToNat, ↓reduceIte, List.take_of_length_le, if_pos, if_neg, List.getElem?_set_self, List.set_set, cnE, cnV, Tryz.ntmps8, Tryz.results8,  h1, q1, h2, h3, q3, h4, q4, l1', h5, q5])
        · have hz' : (w == 1) = false := beq_f hz
          repeat' (first | with_reducible first | refine kI (by kernel_rfl) ?_ | refine kN (by kernel_rfl) ?_ | (first | refine kB1 ?_ ?_ | refine kB2 ?_ ?_) <;> intro hp | (first | refine kD1 ?_ ?_ | refine kD2 ?_ ?_ | refine kS1 ?_ ?_ | refine kS2 ?_ ?_) <;> intro hp <;> try simp only [hp] | simp -implicitDefEqProofs (disch := omega) only [go_sem, Nat.reduceAdd, Nat.reduceSub, reduceCtorEq, Nat.reduceLT, Nat.reduceLeDiff, Nat.reduceEqDiff, Nat.reduceMul, Int.reduceToNat, ↓reduceIte, List.take_of_length_le, if_pos, if_neg, List.getElem?_set_self, List.set_set, cnE, cnV, Tryz.ntmps8, Tryz.results8,  h1, q1, h2, h3, q3, h4, q4, l1', h5, q5, hz'])
    | false =>
      rw [hc, if_neg (by simp)] at q1
      have q3 := eq_nil_t
      repeat' (first | with_reducible first | refine kI (by kernel_rfl) ?_ | refine kN (by kernel_rfl) ?_ | (first | refine kB1 ?_ ?_ | refine kB2 ?_ ?_) <;> intro hp | (first | refine kD1 ?_ ?_ | refine kD2 ?_ ?_ | refine kS1 ?_ ?_ | refine kS2 ?_ ?_) <;> intro hp <;> try simp only [hp] | simp -implicitDefEqProofs (disch := omega) only [go_sem, Nat.reduceAdd, Nat.reduceSub, reduceCtorEq, Nat.reduceLT, Nat.reduceLeDiff, Nat.reduceEqDiff, Nat.reduceMul, Int.reduceToNat, ↓reduceIte, List.take_of_length_le, if_pos, if_neg, List.getElem?_set_self, List.set_set, cnE, cnV, Tryz.ntmps8, Tryz.results8,  h1, q1, h2, h3, q3, dec_i0])
end Go.Proofs.YtgpflkmelindfaaGreat
