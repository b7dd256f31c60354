/- Contracts of functions on views and memories that the laws of this seat call. -/
import Derived.Test.YtjmkdnnfhphckaaWB
set_option linter.all false
namespace Go.Proofs.Ytjmkdnnfhphckaa
open Go Go.Ev Go.RowKit Go.Ev.Enc Go.Pl

/-! ### stores and copies, in plain words -/
theorem cell_ne {A : List Int} {n i j : Nat} (hA : inM A n) (hd : diffF A = true) (hi : i < A.length) (hj : j < A.length) (hij : i ≠ j) : (A.getD i 0).toNat ≠ (A.getD j 0).toNat := by
  have h1 := hA _ (gmem hi)
  have h2 := hA _ (gmem hj)
  have hp := List.pairwise_iff_getElem.1 (List.nodup_iff_pairwise_ne.1 (diffF_nodup.1 hd))
  have e1 : A.getD i 0 = A[i] := by simp [hi]
  have e2 : A.getD j 0 = A[j] := by simp [hj]
  have : A.getD i 0 ≠ A.getD j 0 := by
    rw [e1, e2]
    rcases Nat.lt_or_gt_of_ne hij with h | h
    · exact hp i j hi hj h
    · exact fun e => hp j i hj hi h e.symm
  omega
theorem sto_at {m A V : List Int} (hA : inM A m.length) (hd : diffF A = true) {i : Nat} (hi : i < A.length) : (stoT m A V A.length).getD (A.getD i 0).toNat 0 = V.getD i 0 := by
  obtain ⟨p, hp, hpm⟩ := in_at hA hi
  rw [hp, Int.toNat_natCast]
  exact stoT_last hpm (by rw [hp, Int.toNat_natCast]) A.length hi fun t h1 h2 => by
    have := cell_ne hA hd h2 hi (by omega)
    rw [hp, Int.toNat_natCast] at this
    exact this
theorem tkn_sto {m A V : List Int} (hA : inM A m.length) (hd : diffF A = true) (hV : V.length = A.length) : tkn (stoT m A V A.length) A = V :=
  ints_ext (by rw [tkn_len, hV]) fun i hi => by
    rw [tkn_len] at hi
    rw [tkn_atI hi, sto_at hA hd hi]
theorem lat_no {A B : List Int} (h : latB A B A.length = false) {i k : Nat} (hi : i < A.length) (hik : i < k) (hk : k < B.length) : B.getD k 0 ≠ A.getD i 0 := fun e => by
  have := latB_iff.2 ⟨i, hi, k, hik, hk, e⟩
  rw [h] at this
  cases this
theorem ear_no {A B : List Int} (h : earB A B A.length = false) {i k : Nat} (hi : i < A.length) (hik : k < i) (hk : k < B.length) : B.getD k 0 ≠ A.getD i 0 := fun e => by
  have := earB_iff.2 ⟨i, hi, k, hik, hk, e⟩
  rw [h] at this
  cases this
theorem cp_fwd {m A B : List Int} (hA : inM A m.length) (hB : inM B m.length) (hl : B.length = A.length) (h : latB A B A.length = false) : ∀ k, k ≤ A.length → cpT m A B (upV A.length) k = stoT m A (tkn m B) k
  | 0, _ => rfl
  | k + 1, hk => by
    have hkA : k < A.length := by omega
    have hkB : k < B.length := by omega
    rw [cpT, stoT, cp_fwd hA hB hl h k (by omega), upV_at hkA, Int.toNat_natCast, tkn_atI hkB, stoT_out k fun j hj he => ?_]
    have h1 := hA _ (gmem (show j < A.length by omega))
    have h2 := hB _ (gmem hkB)
    exact lat_no h (show j < A.length by omega) hj hkB (by omega)
theorem cpT_out {m A B O : List Int} {i : Nat} : ∀ k, (∀ j, j < k → (A.getD (O.getD j 0).toNat 0).toNat ≠ i) → (cpT m A B O k).getD i 0 = m.getD i 0
  | 0, _ => rfl
  | k + 1, h => by
    rw [cpT, getD_set_ne (Ne.symm (h k (by omega))), cpT_out k fun j hj => h j (by omega)]
theorem chg_cp {m A B O : List Int} (hA : inM A m.length) (hO : inM O A.length) {k : Nat} (hk : k ≤ O.length) : ∀ x ∈ chgF m (cpT m A B O k), x ∈ A := fun x hx => by
  unfold chgF at hx
  split at hx
  · obtain ⟨⟨h0, h1⟩, hne⟩ := mem_chg.1 hx
    apply Classical.byContradiction
    intro hna
    refine hne (cpT_out k fun j hj he => hna ?_).symm
    obtain ⟨i, hi, hiA⟩ := in_at hO (show j < O.length by omega)
    rw [hi, Int.toNat_natCast] at he
    have := hA _ (gmem hiA)
    have e : A.getD i 0 = x := by omega
    rw [← e]; exact gmem hiA
  · simp at hx
/-- from the last one on: what was stored, and what was not -/
theorem cp_bwd_st {m A B : List Int} (hA : inM A m.length) (hB : inM B m.length) (hl : B.length = A.length) (h : earB A B A.length = false) (hd : diffF A = true) : ∀ k, k ≤ A.length →
    (∀ i, (∀ t, A.length - k ≤ t → t < A.length → (A.getD t 0).toNat ≠ i) → (cpT m A B (upV A.length).reverse k).getD i 0 = m.getD i 0) ∧
    ∀ t, A.length - k ≤ t → t < A.length → (cpT m A B (upV A.length).reverse k).getD (A.getD t 0).toNat 0 = m.getD (B.getD t 0).toNat 0
  | 0, _ => ⟨fun _ _ => rfl, fun t h1 h2 => by omega⟩
  | k + 1, hk => by
    obtain ⟨ha, hb⟩ := cp_bwd_st hA hB hl h hd k (by omega)
    obtain ⟨s, hs⟩ : ∃ s, A.length - 1 - k = s := ⟨_, rfl⟩
    have hsA : s < A.length := by omega
    have hsB : s < B.length := by omega
    have hv : (cpT m A B (upV A.length).reverse k).getD (B.getD s 0).toNat 0 = m.getD (B.getD s 0).toNat 0 := ha _ fun t h1 h2 he => by
      have q1 := hA _ (gmem h2)
      have q2 := hB _ (gmem hsB)
      exact ear_no h h2 (show s < t by omega) hsB (by omega)
    have hst : cpT m A B (upV A.length).reverse (k + 1) = (cpT m A B (upV A.length).reverse k).set (A.getD s 0).toNat (m.getD (B.getD s 0).toNat 0) := by
      rw [cpT, upR_at (by omega), hs, Int.toNat_natCast, hv]
    rw [hst]
    refine ⟨fun i hi => ?_, fun t h1 h2 => ?_⟩
    · rw [getD_set_ne (Ne.symm (hi s (by omega) hsA))]
      exact ha i fun t h1 h2 => hi t (by omega) h2
    · by_cases hts : t = s
      · subst hts
        have q1 := hA _ (gmem h2)
        rw [getD_set_eq (by rw [cpT_len]; omega)]
      · rw [getD_set_ne (cell_ne hA hd h2 hsA hts)]
        exact hb t (by omega) h2
theorem sto_ext {m A V : List Int} {L : List Int} (hA : inM A m.length) (hd : diffF A = true) (hL : L.length = m.length) (h1 : ∀ t, t < A.length → L.getD (A.getD t 0).toNat 0 = V.getD t 0)
    (h2 : ∀ i, (∀ t, t < A.length → (A.getD t 0).toNat ≠ i) → L.getD i 0 = m.getD i 0) : L = stoT m A V A.length :=
  ints_ext (by rw [stoT_len, hL]) fun i hi => by
    by_cases hc : ∃ t, t < A.length ∧ (A.getD t 0).toNat = i
    · obtain ⟨t, ht, rfl⟩ := hc
      rw [h1 t ht, sto_at hA hd ht]
    · have hn : ∀ t, t < A.length → (A.getD t 0).toNat ≠ i := fun t ht e => hc ⟨t, ht, e⟩
      rw [h2 i hn, stoT_out A.length hn]
theorem cp_bwd {m A B : List Int} (hA : inM A m.length) (hB : inM B m.length) (hl : B.length = A.length) (h : earB A B A.length = false) (hd : diffF A = true) : cpT m A B (upV A.length).reverse A.length = stoT m A (tkn m B) A.length := by
  obtain ⟨ha, hb⟩ := cp_bwd_st hA hB hl h hd A.length (Nat.le_refl _)
  exact sto_ext hA hd (cpT_len _ _ _ _ _) (fun t ht => by rw [hb t (by omega) ht, tkn_atI (by omega)]) fun i hi => ha i fun t _ ht => hi t ht
/-- numbers from 0 on, copied one by one: each cell has the number of a cell that came before -/
theorem cp_iota {L : Nat} {A B : List Int} (hA : inM A L) (hB : inM B L) (hl : B.length = A.length) (hd : diffF A = true) : ∀ k, k ≤ A.length →
    (∀ j, j < k → ∃ t, t ≤ j ∧ (cpT (upV L) A B (upV A.length) k).getD (A.getD j 0).toNat 0 = B.getD t 0)
  | 0, _ => fun j hj => by omega
  | k + 1, hk => fun j hj => by
    have hkA : k < A.length := by omega
    have hkB : k < B.length := by omega
    have hA' : inM A (upV L).length := by rw [upV_len]; exact hA
    rw [cpT, upV_at hkA, Int.toNat_natCast]
    obtain ⟨q, hq, hqL⟩ := in_at hB hkB
    by_cases hjk : j = k
    · subst hjk
      have q1 := hA _ (gmem hkA)
      rw [getD_set_eq (by rw [cpT_len, upV_len]; omega)]
      by_cases hc : ∃ i, i < j ∧ (A.getD i 0).toNat = (B.getD j 0).toNat
      · obtain ⟨i, hi, he⟩ := hc
        obtain ⟨t, ht, hv⟩ := cp_iota hA hB hl hd j (by omega) i hi
        rw [he] at hv
        exact ⟨t, by omega, hv⟩
      · refine ⟨j, Nat.le_refl _, ?_⟩
        rw [cpT_out j fun i hi he => ?_]
        · rw [hq, Int.toNat_natCast, upV_at hqL]
        · rw [upV_at (show i < A.length by omega), Int.toNat_natCast] at he
          exact hc ⟨i, hi, he⟩
    · rw [getD_set_ne (cell_ne hA hd (by omega) hkA hjk)]
      exact cp_iota hA hB hl hd k (by omega) j (by omega)
theorem cp_keep {m A B : List Int} (hA : inM A m.length) (hd : diffF A = true) {i : Nat} (hi : i < A.length) : ∀ k, i < k → k ≤ A.length → (cpT m A B (upV A.length) k).getD (A.getD i 0).toNat 0 = (cpT m A B (upV A.length) i).getD (B.getD i 0).toNat 0
  | k + 1, h1, h2 => by
    rw [cpT, upV_at (show k < A.length by omega), Int.toNat_natCast]
    by_cases hik : i = k
    · subst hik
      have q1 := hA _ (gmem hi)
      rw [getD_set_eq (by rw [cpT_len]; omega)]
    · rw [getD_set_ne (cell_ne hA hd hi (by omega) hik)]
      exact cp_keep hA hd hi k (by omega) (by omega)
theorem cp_wrong {L : Nat} {A B : List Int} (hA : inM A L) (hB : inM B L) (hl : B.length = A.length) (hd : diffF A = true) (he : diffF B = true) :
    decide (cpT (upV L) A B (upV A.length) A.length = stoT (upV L) A (tkn (upV L) B) A.length) = !latB A B A.length := by
  have hA' : inM A (upV L).length := by rw [upV_len]; exact hA
  have hB' : inM B (upV L).length := by rw [upV_len]; exact hB
  cases hlat : latB A B A.length with
  | false => exact decide_eq_true (cp_fwd hA' hB' hl hlat A.length (Nat.le_refl _))
  | true =>
    refine decide_eq_false fun e => ?_
    obtain ⟨i, hi, k, h1, h2, h3⟩ := latB_iff.1 hlat
    have hkA : k < A.length := by omega
    have a1 := cp_keep (B := B) hA' hd hkA A.length hkA (Nat.le_refl _)
    rw [e, sto_at hA' hd hkA, tkn_atI h2] at a1
    obtain ⟨t, ht, hv⟩ := cp_iota hA hB hl hd k (by omega) i h1
    rw [h3, hv] at a1
    obtain ⟨q, hq, hqL⟩ := in_at hA hi
    rw [hq, Int.toNat_natCast, upV_at hqL, ← hq, ← h3] at a1
    have := cell_ne hB he h2 (show t < B.length by omega) (by omega)
    rw [a1] at this
    exact this rfl
/-! ### exchanged twice -/
theorem both_ne {A B : List Int} (hA : inC A) (h : ¬ 0 < (bothF A B).length) {i j : Nat} (hi : i < A.length) (hj : j < B.length) : A.getD i 0 ≠ B.getD j 0 := fun e =>
  h (List.length_pos_of_mem (mem_both.2 ⟨hA _ (gmem hi), gmem hi, by rw [e]; exact gmem hj⟩))
theorem swap_at {m A B : List Int} (hA : inM A m.length) (hB : inM B m.length) (hAc : inC A) (hl : B.length = A.length) (h0 : ¬ 0 < (bothF A B).length) (hd : diffF A = true) (he : diffF B = true) :
    (∀ t, t < A.length → (stoT (stoT m A (tkn m B) A.length) B (tkn m A) B.length).getD (A.getD t 0).toNat 0 = m.getD (B.getD t 0).toNat 0) ∧
    (∀ t, t < A.length → (stoT (stoT m A (tkn m B) A.length) B (tkn m A) B.length).getD (B.getD t 0).toNat 0 = m.getD (A.getD t 0).toNat 0) ∧
    ∀ i, (∀ t, t < A.length → (A.getD t 0).toNat ≠ i) → (∀ t, t < A.length → (B.getD t 0).toNat ≠ i) → (stoT (stoT m A (tkn m B) A.length) B (tkn m A) B.length).getD i 0 = m.getD i 0 := by
  have hB' : inM B (stoT m A (tkn m B) A.length).length := by rw [stoT_len]; exact hB
  refine ⟨fun t ht => ?_, fun t ht => ?_, fun i h1 h2 => ?_⟩
  · rw [stoT_out B.length fun j hj e => ?_, sto_at hA hd ht, tkn_atI (by omega)]
    have q1 := hA _ (gmem ht)
    have q2 := hB _ (gmem hj)
    exact both_ne hAc h0 ht hj (by omega)
  · rw [sto_at hB' he (by omega), tkn_atI ht]
  · rw [stoT_out B.length fun j hj => h2 j (by omega), stoT_out A.length h1]
theorem swap_twice {m A B : List Int} (hA : inM A m.length) (hB : inM B m.length) (hAc : inC A) (hl : B.length = A.length) (h0 : ¬ 0 < (bothF A B).length) (hd : diffF A = true) (he : diffF B = true) {O : List Int}
    (hO : stoT (stoT m A (tkn m B) A.length) B (tkn m A) B.length = O) : stoT (stoT O A (tkn O B) A.length) B (tkn O A) B.length = m ∧ tkn O A = tkn m B ∧ tkn O B = tkn m A := by
  obtain ⟨a1, a2, a3⟩ := swap_at hA hB hAc hl h0 hd he
  have hOl : O.length = m.length := by rw [← hO, stoT_len, stoT_len]
  rw [hO] at a1 a2 a3
  have hA' : inM A O.length := by rw [hOl]; exact hA
  have hB' : inM B O.length := by rw [hOl]; exact hB
  obtain ⟨b1, b2, b3⟩ := swap_at hA' hB' hAc hl h0 hd he
  refine ⟨ints_ext (by rw [stoT_len, stoT_len, hOl]) fun i hi => ?_, ?_, ?_⟩
  · by_cases c1 : ∃ t, t < A.length ∧ (A.getD t 0).toNat = i
    · obtain ⟨t, ht, rfl⟩ := c1
      rw [b1 t ht, a2 t ht]
    · by_cases c2 : ∃ t, t < A.length ∧ (B.getD t 0).toNat = i
      · obtain ⟨t, ht, rfl⟩ := c2
        rw [b2 t ht, a1 t ht]
      · have n1 : ∀ t, t < A.length → (A.getD t 0).toNat ≠ i := fun t ht e => c1 ⟨t, ht, e⟩
        have n2 : ∀ t, t < A.length → (B.getD t 0).toNat ≠ i := fun t ht e => c2 ⟨t, ht, e⟩
        rw [b3 i n1 n2, a3 i n1 n2]
  · exact ints_ext (by rw [tkn_len, tkn_len, hl]) fun i hi => by
      rw [tkn_len] at hi
      rw [tkn_atI hi, tkn_atI (by omega), a1 i hi]
  · exact ints_ext (by rw [tkn_len, tkn_len, hl]) fun i hi => by
      rw [tkn_len] at hi
      rw [tkn_atI hi, tkn_atI (by omega), a2 i (by omega)]
/-! ### flipped lines -/
theorem rev_at {l : List Int} {k : Nat} (h : k < l.length) : l.reverse.getD k 0 = l.getD (l.length - 1 - k) 0 := by
  rw [List.getD_eq_getElem?_getD, List.getElem?_reverse h, ← List.getD_eq_getElem?_getD]
theorem cp_rev {m A B : List Int} (hl : B.length = A.length) : ∀ k, k ≤ A.length → cpT m A.reverse B.reverse (upV A.length) k = cpT m A B (upV A.length).reverse k
  | 0, _ => rfl
  | k + 1, hk => by
    rw [cpT, cpT, cp_rev hl k (by omega), upV_at (by omega), upR_at (by omega), Int.toNat_natCast, Int.toNat_natCast, rev_at (by omega), rev_at (by omega), hl]
theorem unr_line {s : List Int} (h : s.length = 1) {k : Nat} (hk : (k : Int) < s.getD 0 0) : unrF s (k : Int) = [(k : Int)] := by
  rw [len_one h, show ([s.getD 0 0] : List Int) = [] ++ [s.getD 0 0] from rfl, unrF_snoc]
  show unrF [] _ ++ [(k : Int).tmod (s.getD 0 0)] = _
  rw [Int.tmod_eq_of_lt (by omega) hk]
  rfl
theorem flip_line {v : Vi} (h : viewOK v = true) (h1 : v.sh.length = 1) : offF (slcF v 0 (indF (v.sh.getD 0 0) flipS)) = (offF v).reverse := by
  have hd : 0 < v.sh.length := by omega
  have o1 := flip_ok h hd
  have s1 := flip_sh h hd
  have c1 := fun hz x hx => flip_cell h hd hz (x := x) hx
  have hn := dim_at h hd
  generalize slcF v 0 (indF (v.sh.getD 0 0) flipS) = w at *
  have hw := off_cnt (vOK o1).1
  have hv := off_cnt (vOK h).1
  rw [s1] at hw
  have hp : prodW v.sh = v.sh.getD 0 0 := by
    rw [len_one h1]
    show IntKind.i64.wrap (1 * v.sh.getD 0 0) = _
    rw [wrap_in (by omega)]
    simp
  refine ints_ext (by rw [List.length_reverse]; omega) fun k hk => ?_
  have hz : ¬ prodW v.sh = 0 := by omega
  have hkn : (k : Int) < v.sh.getD 0 0 := by omega
  have hi := (shape_facts (vOK h).1).2.1
  have hx := unr_ix hi (shape_posV (vOK h).1 hz) k
  obtain ⟨d1, d2⟩ := c1 hz _ hx
  have e0 : (unrF v.sh (k : Int)).getD 0 0 = (k : Int) := by rw [unr_line h1 hkn]; rfl
  obtain ⟨j, hj⟩ : ∃ j : Nat, v.sh.getD 0 0 - 1 - (k : Int) = (j : Int) := ⟨(v.sh.getD 0 0 - 1 - (k : Int)).toNat, by omega⟩
  have e1 : (unrF v.sh (k : Int)).set 0 (v.sh.getD 0 0 - 1 - (unrF v.sh (k : Int)).getD 0 0) = unrF v.sh (j : Int) := by
    rw [e0, hj, unr_line h1 hkn, unr_line h1 (by omega)]; rfl
  rw [e1] at d1 d2
  rw [offF_at (by rw [s1]; omega), s1]
  have a1 := offW_ix o1 (x := unrF v.sh (k : Int)) (by rw [s1]; exact hx)
  rw [s1] at a1
  rw [a1, d1, rev_at (by omega), offF_at (by omega), ← offW_ix h d2]
  congr 2
  omega
theorem flip_hold {m : List Int} {v : Vi} (h : holdB m v = true) {d : Nat} (hd : d < v.sh.length) : holdB m (slcF v d (indF (v.sh.getD d 0) flipS)) = true := by
  obtain ⟨f1, f2, f3⟩ := fit_in h
  have hn := dim_at f2 hd
  unfold holdB
  rw [f1, flip_ok f2 hd, Bool.true_and, Bool.true_and]
  unfold fitB
  rw [List.all_eq_true]
  intro x hx
  have := f3 x (slc_mem f2 hd (ind_rng hn.1) (ind_len hn.1 (by decide)) (ind_ap _ _) hx)
  exact decide_eq_true this.2
end Go.Proofs.Ytjmkdnnfhphckaa
namespace Go.Proofs.Ytjmkdnnfhphckaa
open Go Go.Ev Go.RowKit Go.Ev.Enc Go.Pl

/-! ### draws -/
theorem selC_part {L : List Blk} {n k c off len : Nat} {q : List Int} (hk : n ≤ k) (hq : q.length = c) (ho : off + len ≤ c) (h : L[k]? = some ⟨1, q.map fun n => .int .i64 n⟩) {cap : Nat} : selC (gR n []) L (.sl k c off len cap) = ints 1 ((q.drop off).take len) := by
  have hg : gR n [] k = none := gR_ge hk
  subst hq
  simp [selC, selStep, hg, h, ho, expE, ints, Function.comp_def]
def DrPair (f : FuncId) : Prop := ∀ (bs : List UInt8), bs.length ≤ 1048576 → ∀ L : List Blk, ISpec Try.prog f [bytesA 0 bs] L fun r L' => ∃ (m : List Int) (u v : Vi), m.length ≤ 60 ∧ (viOK u ∧ viOK v) ∧ r = .tup [ints 1 m, viD u, viD v] ∧ L' = L
theorem selV_pair {g : Nat → Option Nat} {L : List Blk} {m : List Int} {u v : Vi} : selV g L (.tup [ints 1 m, viD u, viD v]) = .tup [ints 1 m, viD u, viD v] := by
  rw [selV_tup]
  simp only [List.map_cons, List.map_nil, expE, selC_d, selC_int]
def DrPairT (f : FuncId) : Prop := ∀ (bs : List UInt8), bs.length ≤ 1048576 → ∀ L : List Blk, ISpec Try.prog f [bytesA 0 bs] L fun r L' => ∃ (m : List Int) (u v : Vi) (t : Nat), m.length ≤ 60 ∧ (viOK u ∧ viOK v) ∧ r = .tup [ints 1 m, .agg [i64 u.b, ints t u.sh, ints t u.st], .agg [i64 v.b, ints t v.sh, ints t v.st]] ∧ L' = L
end Go.Proofs.Ytjmkdnnfhphckaa
namespace Go.Proofs.Ytjmkdnnfhphckaa
open Go Go.Ev Go.RowKit Go.Ev.Enc Go.Pl

def DrSto (f : FuncId) : Prop := ∀ (bs : List UInt8), bs.length ≤ 1048576 → ∀ L : List Blk, ISpec Try.prog f [bytesA 0 bs] L fun r L' => ∃ (m : List Int) (v : Vi) (V : List Int), (m.length ≤ 60 ∧ V.length ≤ 60) ∧ viOK v ∧ r = .tup [ints 1 m, viD v, ints 1 V] ∧ L' = L
theorem eq_refl_t {a : List Int} (h : a.length < 4294967296) : gEqInts a a = some true := (gEqInts_eq ⟨h, h⟩).trans (by simp)
theorem chgF_len {a b : List Int} (h : a.length ≤ 60) : (chgF a b).length ≤ 60 := by
  unfold chgF
  split
  · have := chgT_len a b a.length; omega
  · simp
theorem one_t {v : Vi} (h : viewOK v = true) : gOneT v = some (diffF (offF v)) := by rw [gOneT_eq (ok_viB h), h, Bool.true_and]
end Go.Proofs.Ytjmkdnnfhphckaa
namespace Go.Proofs.Ytjmkdnnfhphckaa
open Go Go.Ev Go.RowKit Go.Ev.Enc Go.Pl

theorem iota_ok {n : Nat} (h : n ≤ 60) : memOK (upV n) = true := memOK_iff.2 ⟨by rw [upV_len]; exact h, fun x hx => by have := upV_mem.1 hx; omega⟩
theorem way_zero {A B : List Int} : (wayL A B == 0) = !latB A B A.length := by
  cases hl : latB A B A.length with
  | false => rw [wayL_0 hl]; rfl
  | true =>
    refine beq_f fun h => ?_
    unfold wayL at h
    rw [hl, if_neg (by simp)] at h
    split at h <;> omega
theorem swpB_iff {m : List Int} {a b : Vi} : swpB m a b = true ↔ cpyB m a b = true ∧ ¬ 0 < (bothF (offF a) (offF b)).length ∧ diffF (offF a) = true ∧ diffF (offF b) = true := by
  unfold swpB
  simp only [Bool.and_eq_true, Bool.not_eq_true', decide_eq_false_iff_not]
end Go.Proofs.Ytjmkdnnfhphckaa
namespace Go.Proofs.Ytjmkdnnfhphckaa
open Go Go.Ev Go.RowKit Go.Ev.Enc Go.Pl

def gNumT (r : Rg) : Option (List Int) := gd True (if rgOK r = true then numF r else [])
theorem gNumT_eq (r : Rg) : gNumT r = some (if rgOK r = true then numF r else []) := rfl
/-- what two lists have, in the order of the first -/
def meetT (A B : List Int) (k : Nat) : List Int := (A.take k).filter fun x => B.contains x
theorem meetT_s {A B : List Int} {k : Nat} (h : k < A.length) : meetT A B (k + 1) = if B.contains (A.getD k 0) = true then meetT A B k ++ [A.getD k 0] else meetT A B k := by
  unfold meetT
  rw [take_snocI h, List.filter_append]
  simp only [List.filter_cons, List.filter_nil]
  split
  · rfl
  · simp
theorem meetT_len (A B : List Int) (k : Nat) : (meetT A B k).length ≤ k :=
  Nat.le_trans (List.length_filter_le _ _) (by rw [List.length_take]; omega)
def meetF (a b : Rg) : List Int := (numF a).filter fun x => (numF b).contains x
def gMeetR (a b : Rg) : Option Rg := gd True (if rgOK a = true ∧ rgOK b = true then nrmF (msr (meetF a b)) else ⟨0, 0, 0⟩)
theorem gMeetR_eq (a b : Rg) : gMeetR a b = some (if rgOK a = true ∧ rgOK b = true then nrmF (msr (meetF a b)) else ⟨0, 0, 0⟩) := rfl
def lineR (v : Vi) : Rg := if viewOK v = true ∧ v.sh.length = 1 then nrmF (srt (offF v)) else ⟨0, 0, 0⟩
def gLine (v : Vi) : Option Rg := gd (viB v) (lineR v)
theorem gLine_eq {v : Vi} (h : viB v) : gLine v = some (lineR v) := gd_eq h
theorem srt_small {v : Vi} (h : viewOK v = true) : smallL 100000 (srt (offF v)) := fun x hx => by
  have := offF_in h x ((srt_mem _ _).1 hx)
  omega
def gEqR (a b : Rg) : Option Bool := gd True (decide (a = b))
theorem gEqR_eq (a b : Rg) : gEqR a b = some (decide (a = b)) := rfl
theorem rg_eq {a b : Rg} : (a.a == b.a && (a.z == b.z && a.s == b.s)) = decide (a = b) := by
  cases a; cases b
  rw [Bool.eq_iff_iff]
  simp
end Go.Proofs.Ytjmkdnnfhphckaa
namespace Go.Proofs.Ytjmkdnnfhphckaa
open Go Go.Ev Go.RowKit Go.Ev.Enc Go.Pl

/-! ### lines that ascend -/
theorem line_asc {a s : Int} {N : Nat} (hs : 1 ≤ s) : (lineF a s N).Pairwise (· < ·) := by
  rw [List.pairwise_iff_getElem]
  intro i j hi hj hij
  rw [lineF_len] at hi hj
  have e1 := lineF_at (b := a) (s := s) hi
  have e2 := lineF_at (b := a) (s := s) hj
  rw [List.getD_eq_getElem?_getD, List.getElem?_eq_getElem (by rw [lineF_len]; exact hi), Option.getD_some] at e1
  rw [List.getD_eq_getElem?_getD, List.getElem?_eq_getElem (by rw [lineF_len]; exact hj), Option.getD_some] at e2
  rw [e1, e2]
  have := mul_stepI hs hij
  omega
theorem srt_line {v : Vi} (h : viewOK v = true) (h1 : v.sh.length = 1) : ∃ a s N, 1 ≤ s ∧ srt (offF v) = lineF a s N := by
  rw [offF_line h h1]
  generalize v.b = b
  generalize v.st.getD 0 0 = s
  generalize (v.sh.getD 0 0).toNat = n
  rcases Int.lt_trichotomy s 0 with hs | hs | hs
  · have key : ∀ k, k < n → ((n - 1 - k : Nat) : Int) * s = ((n : Int) - 1) * s - k * s := fun k hk => by
      rw [show ((n - 1 - k : Nat) : Int) = ((n : Int) - 1) - k by omega, Int.sub_mul]
    generalize ((n : Int) - 1) * s = Z at key ⊢
    refine ⟨b + Z, -s, n, by omega, srt_eq (line_asc (by omega)) fun x => ?_⟩
    rw [mem_line, mem_line]
    constructor
    · rintro ⟨k, hk, rfl⟩
      refine ⟨n - 1 - k, by omega, ?_⟩
      rw [Int.mul_neg, key k hk]
      omega
    · rintro ⟨k, hk, rfl⟩
      refine ⟨n - 1 - k, by omega, ?_⟩
      rw [Int.mul_neg, key k hk]
      omega
  · subst hs
    by_cases hn : n = 0
    · subst hn
      exact ⟨0, 1, 0, by omega, srt_eq (line_asc (by omega)) fun x => by rw [mem_line, mem_line]; exact ⟨fun ⟨k, hk, _⟩ => by omega, fun ⟨k, hk, _⟩ => by omega⟩⟩
    · refine ⟨b, 1, 1, by omega, srt_eq (line_asc (by omega)) fun x => ?_⟩
      rw [mem_line, mem_line]
      constructor
      · rintro ⟨k, hk, rfl⟩
        exact ⟨0, by omega, by simp; omega⟩
      · rintro ⟨k, hk, rfl⟩
        exact ⟨0, by omega, by simp⟩
  · exact ⟨b, s, n, by omega, srt_eq (line_asc (by omega)) fun x => Iff.rfl⟩
theorem nrm_step {a s : Int} {N : Nat} (hs : 1 ≤ s) : ¬ (nrmF (lineF a s N)).s = 0 := by
  unfold nrmF
  rw [lineF_len]
  split
  · decide
  · split
    · show ¬ (1 : Int) = 0
      decide
    · rw [lineF_at (by omega), lineF_at (by omega)]
      show ¬ (a + ((1 : Nat) : Int) * s - (a + ((0 : Nat) : Int) * s)) = 0
      simp
      omega
theorem rgOK_mk {a z s : Int} (h1 : -100 ≤ a ∧ a ≤ 100) (h2 : -101 ≤ z ∧ z ≤ 101) (h3 : -200 ≤ s ∧ s ≤ 200) (h4 : ¬ s = 0) : rgOK ⟨a, z, s⟩ = true := by
  unfold rgOK inR
  simp [h1, h2, h3, h4]
theorem nrm_ok {a s : Int} {N : Nat} (hs : 1 ≤ s) (hl : ∀ x ∈ lineF a s N, 0 ≤ x ∧ x < 60) : rgOK (nrmF (lineF a s N)) = true := by
  have hk : ∀ k, k < N → 0 ≤ (lineF a s N).getD k 0 ∧ (lineF a s N).getD k 0 < 60 := fun k hk => hl _ (gmem (by rw [lineF_len]; exact hk))
  unfold nrmF
  rw [lineF_len]
  split
  · decide
  · split
    · have := hk 0 (by omega)
      exact rgOK_mk (by omega) (by omega) (by decide) (by decide)
    · have h0 := hk 0 (by omega)
      have h1 := hk 1 (by omega)
      have h2 := hk (N - 1) (by omega)
      have e : (lineF a s N).getD 1 0 - (lineF a s N).getD 0 0 = s := by
        rw [lineF_at (by omega), lineF_at (by omega)]
        show a + ((1 : Nat) : Int) * s - (a + ((0 : Nat) : Int) * s) = s
        simp; omega
      have h3 : -200 ≤ s ∧ s ≤ 200 := by omega
      rw [e, if_neg (by omega)]
      exact rgOK_mk (by omega) (by omega) h3 (by omega)
/-! ### lines meet in lines -/
theorem line_btw {a s u w y m : Int} {N : Nat} (hs : 1 ≤ s) (hu : u ∈ lineF a s N) (hw : w ∈ lineF a s N) (h1 : u ≤ y) (h2 : y ≤ w) (h3 : y = u + m * s) : y ∈ lineF a s N := by
  obtain ⟨i, hi, rfl⟩ := mem_line.1 hu
  obtain ⟨j, hj, rfl⟩ := mem_line.1 hw
  have hm : 0 ≤ m := by
    apply Int.not_lt.1
    intro hn
    have : m * s ≤ (-1) * s := Int.mul_le_mul_of_nonneg_right (by omega) (by omega)
    omega
  have hy : y = a + ((i : Int) + m) * s := by rw [Int.add_mul]; omega
  have hij : (i : Int) + m ≤ j := by
    apply Int.not_lt.1
    intro hn
    have : ((j : Int) + 1) * s ≤ ((i : Int) + m) * s := Int.mul_le_mul_of_nonneg_right (by omega) (by omega)
    rw [Int.add_mul] at this
    omega
  exact mem_line.2 ⟨((i : Int) + m).toNat, by omega, by rw [hy, Int.toNat_of_nonneg (by omega)]⟩
theorem line_diff_mul {a s u w : Int} {N : Nat} (hu : u ∈ lineF a s N) (hw : w ∈ lineF a s N) : ∃ m, w = u + m * s := by
  obtain ⟨i, hi, rfl⟩ := mem_line.1 hu
  obtain ⟨j, hj, rfl⟩ := mem_line.1 hw
  exact ⟨(j : Int) - i, by rw [Int.sub_mul]; omega⟩
theorem meet_line {a s b t : Int} {N M : Nat} (hs : 1 ≤ s) (ht : 1 ≤ t) : ∃ a' s' N', 1 ≤ s' ∧ (lineF a s N).filter (fun x => (lineF b t M).contains x) = lineF a' s' N' := by
  have hasc : ((lineF a s N).filter (fun x => (lineF b t M).contains x)).Pairwise (· < ·) := (line_asc hs).sublist List.filter_sublist
  have hmem : ∀ x, x ∈ (lineF a s N).filter (fun x => (lineF b t M).contains x) ↔ x ∈ lineF a s N ∧ x ∈ lineF b t M := fun x => by
    rw [List.mem_filter, List.contains_iff_mem]
  generalize (lineF a s N).filter (fun x => (lineF b t M).contains x) = F at *
  match F, hasc, hmem with
  | [], _, _ => exact ⟨0, 1, 0, by omega, rfl⟩
  | [x], _, _ => exact ⟨x, 1, 1, by omega, by simp [lineF]⟩
  | x0 :: x1 :: r, hasc, hmem =>
    have hlt : x0 < x1 := by
      rw [List.pairwise_cons] at hasc
      exact hasc.1 x1 (by simp)
    have hmin : ∀ y ∈ x0 :: x1 :: r, y = x0 ∨ x1 ≤ y := fun y hy => by
      rcases List.mem_cons.1 hy with rfl | hy
      · exact .inl rfl
      · rcases List.mem_cons.1 hy with rfl | hy
        · exact .inr (Int.le_refl _)
        · rw [List.pairwise_cons, List.pairwise_cons] at hasc
          have := hasc.2.1 y hy
          omega
    obtain ⟨p0, p1⟩ := (hmem x0).1 (by simp)
    obtain ⟨r0, r1⟩ := (hmem x1).1 (by simp)
    obtain ⟨d1, hd1⟩ := line_diff_mul p0 r0
    obtain ⟨d2, hd2⟩ := line_diff_mul p1 r1
    have hmul : ∀ y ∈ x0 :: x1 :: r, ∃ q : Nat, y = x0 + (q : Int) * (x1 - x0) := fun y hy => by
      obtain ⟨y0, y1⟩ := (hmem y).1 hy
      obtain ⟨e1, he1⟩ := line_diff_mul p0 y0
      obtain ⟨e2, he2⟩ := line_diff_mul p1 y1
      have hx : x0 ≤ y := by rcases hmin y hy with h | h <;> omega
      have hdm := Int.emod_add_mul_ediv (y - x0) (x1 - x0)
      have hr0 := Int.emod_nonneg (y - x0) (show x1 - x0 ≠ 0 by omega)
      have hr1 := Int.emod_lt_of_pos (y - x0) (show 0 < x1 - x0 by omega)
      have hq0 : 0 ≤ (y - x0) / (x1 - x0) := Int.ediv_nonneg (by omega) (by omega)
      generalize hQ : (y - x0) / (x1 - x0) = Q at *
      generalize hR : (y - x0) % (x1 - x0) = R at *
      have hz : R = 0 := by
        have c1 : x0 + R = x0 + (e1 - d1 * Q) * s := by
          have : (x1 - x0) * Q = d1 * Q * s := by rw [show x1 - x0 = d1 * s by omega]; rw [Int.mul_assoc, Int.mul_comm s Q, ← Int.mul_assoc]
          rw [Int.sub_mul]; omega
        have c2 : x0 + R = x0 + (e2 - d2 * Q) * t := by
          have : (x1 - x0) * Q = d2 * Q * t := by rw [show x1 - x0 = d2 * t by omega]; rw [Int.mul_assoc, Int.mul_comm t Q, ← Int.mul_assoc]
          rw [Int.sub_mul]; omega
        have m1 := line_btw hs p0 r0 (show x0 ≤ x0 + R by omega) (by omega) c1
        have m2 := line_btw ht p1 r1 (show x0 ≤ x0 + R by omega) (by omega) c2
        rcases hmin _ ((hmem _).2 ⟨m1, m2⟩) with h | h <;> omega
      refine ⟨Q.toNat, ?_⟩
      rw [Int.toNat_of_nonneg hq0, Int.mul_comm]
      omega
    obtain ⟨l, hl⟩ : ∃ l, (x0 :: x1 :: r).getLast (by simp) = l := ⟨_, rfl⟩
    have hlm : l ∈ x0 :: x1 :: r := by rw [← hl]; exact List.getLast_mem _
    have hmax : ∀ y ∈ x0 :: x1 :: r, y ≤ l := fun y hy => by
      obtain ⟨i, hi, rfl⟩ := List.mem_iff_getElem.1 hy
      rw [← hl, List.getLast_eq_getElem]
      rcases Nat.lt_or_eq_of_le (Nat.le_sub_one_of_lt hi) with h | h
      · exact Int.le_of_lt (List.pairwise_iff_getElem.1 hasc i _ hi (by omega) h)
      · simp only [h]; exact Int.le_refl _
    obtain ⟨K, hK⟩ := hmul l hlm
    obtain ⟨l0, l1⟩ := (hmem l).1 hlm
    refine ⟨x0, x1 - x0, K + 1, by omega, asc_ext hasc (line_asc (by omega)) fun y => ?_⟩
    rw [mem_line]
    constructor
    · intro hy
      obtain ⟨q, hq⟩ := hmul y hy
      refine ⟨q, ?_, hq⟩
      have := hmax y hy
      apply Nat.lt_succ_of_le
      apply Nat.le_of_not_lt
      intro h
      have := mul_stepI (s := x1 - x0) (by omega) h
      omega
    · rintro ⟨q, hq, rfl⟩
      have h1 : (q : Int) * (x1 - x0) ≤ (K : Int) * (x1 - x0) := Int.mul_le_mul_of_nonneg_right (by omega) (by omega)
      have h2 : 0 ≤ (q : Int) * (x1 - x0) := Int.mul_nonneg (by omega) (by omega)
      refine (hmem _).2 ⟨line_btw hs p0 l0 (by omega) (by omega) (m := q * d1) ?_, line_btw ht p1 l1 (by omega) (by omega) (m := q * d2) ?_⟩
      · rw [show x1 - x0 = d1 * s by omega, Int.mul_assoc]
      · rw [show x1 - x0 = d2 * t by omega, Int.mul_assoc]
theorem msr_self {A : List Int} (h : A.Pairwise (· < ·)) : msr A = A := by
  have hn : A.Nodup := List.nodup_iff_pairwise_ne.2 (h.imp fun h => by omega)
  have hm : (msr A).Pairwise (· < ·) := by
    have p1 := ms_pw A
    have p2 : (msr A).Nodup := (List.mergeSort_perm A _).nodup_iff.2 hn
    rw [List.nodup_iff_pairwise_ne] at p2
    exact (p1.and p2).imp fun ⟨a, b⟩ => by omega
  exact asc_ext hm h fun x => List.mem_mergeSort
def othV : Vi := ⟨2, [6], [3]⟩
theorem oth_ok : viewOK othV = true := by decide +kernel
theorem oth_off : offF othV = lineF 2 3 6 := offF_line oth_ok rfl
def DrLine (f : FuncId) : Prop := ∀ (bs : List UInt8), bs.length ≤ 1048576 → ∀ L : List Blk, ISpec Try.prog f [bytesA 0 bs] L fun r L' => ∃ (v : Vi) (t : Nat), viOK v ∧ r = .agg [i64 v.b, ints t v.sh, ints t v.st] ∧ L' = L
end Go.Proofs.Ytjmkdnnfhphckaa
namespace Go.Proofs.Ytjmkdnnfhphckaa
open Go Go.Ev Go.RowKit Go.Ev.Enc Go.Pl

def viLn (v : Vi) : AV := .agg [i64 v.b, ints 2 v.sh, ints 2 v.st]
theorem selV_viLn {g : Nat → Option Nat} {L : List Blk} {v : Vi} : selV g L (viLn v) = viLn v := by
  unfold viLn
  rw [selV_agg]
  simp only [List.map_cons, List.map_nil, selC_d, selC_int]
end Go.Proofs.Ytjmkdnnfhphckaa
