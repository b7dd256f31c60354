/- Contracts of functions that the laws of this seat call. -/
import Derived.Test.YtfjhhbpipococaaLf
import Derived.Test.YtfjhhbpipococaaIb
set_option linter.all false
namespace Go.Proofs.Ytfjhhbpipococaa
open Go Go.Ev Go.RowKit Go.Ev.Enc Go.Pl

theorem rank_step {s i : List Int} (hs : inE s) (hl : s.length ≤ 4) (hi : ∀ k, k < s.length → 0 ≤ i.getD k 0 ∧ i.getD k 0 < s.getD k 0) {k : Nat} (hk : k < s.length) : rankW s i (k + 1) = rankW s i k * s.getD k 0 + i.getD k 0 ∧ 0 ≤ rankW s i k := by
  obtain ⟨h1, h2⟩ := rank_lt hs hl hi k (by omega)
  obtain ⟨h3, h4⟩ := hi k hk
  have hx := hs (s.getD k 0) (by simp [hk])
  have hb : prE (s.take k) ≤ 777600000 := by
    have a1 := prE_le (l := s.take k) fun y hy => hs y (List.mem_of_mem_take hy)
    have a2 := pow60_le (n := (s.take k).length) (by rw [List.length_take]; omega)
    omega
  have e1 : rankW s i k * s.getD k 0 ≤ 777600000 * 60 := Int.mul_le_mul (by omega) hx.2 hx.1 (by decide)
  have e2 : 0 ≤ rankW s i k * s.getD k 0 := Int.mul_nonneg h1 hx.1
  exact ⟨by rw [rankW, wrap_in (n := rankW s i k * s.getD k 0) ⟨by omega, by omega⟩, wrap_in ⟨by omega, by omega⟩], h1⟩
theorem prE_takes {s : List Int} {k : Nat} (hk : k < s.length) : prE (s.take (k + 1)) = prE (s.take k) * s.getD k 0 := by rw [take_succ_getD hk, prE_snoc]
/-- the number of a rank, taken as a rank again -/
theorem rank_unr {s : List Int} (hs : inE s) (hp : ∀ d ∈ s, 1 ≤ d) (hl : s.length ≤ 4) {k : Int} (hk : 0 ≤ k) : ∀ m, m ≤ s.length → rankW s (unrF s k) m = divR (s.reverse.take (s.length - m)) k % prE (s.take m)
  | 0, _ => by simp [rankW, prE, Int.emod_one]
  | m + 1, hm => by
    have hpi : ∀ i, i < s.length → 1 ≤ s.getD i 0 := fun i hi => hp _ (gmem hi)
    have hd := (rank_step hs hl (fun d hd => unrF_bd hpi hk hd) (i := unrF s k) (k := m) (by omega)).1
    have hpos := hpi m (by omega)
    have hc : ∀ q, 0 ≤ divR (s.reverse.take q) k := fun q => (divR_nn _ k (fun d hd => hp d (by have := List.mem_of_mem_take hd; rwa [List.mem_reverse] at this)) hk).1
    rw [hd, rank_unr hs hp hl hk m (by omega), unrF_at (by omega), prE_takes (by omega), rev_drop (by omega), divR_app]
    generalize hC : divR (s.reverse.take (s.length - (m + 1))) k = C at *
    have hC0 : 0 ≤ C := by rw [← hC]; exact hc _
    show (C.tdiv (s.getD m 0)) % _ * _ + C.tmod (s.getD m 0) = _
    rw [Int.tdiv_eq_ediv_of_nonneg hC0, Int.tmod_eq_emod_of_nonneg hC0]
    have hP : 0 ≤ prE (s.take m) := prE_nn fun y hy => hs y (List.mem_of_mem_take hy)
    rw [Int.mul_comm (prE (s.take m)), Int.emod_mul_right hpos hP C]
where
  Int.emod_mul_right {a b : Int} (ha : 1 ≤ a) (hb : 0 ≤ b) (C : Int) : (C / a) % b * a + C % a = C % (a * b) := by
    rcases Int.lt_or_eq_of_le hb with hb | rfl
    · have h1 : C = a * (C / a) + C % a := (Int.mul_ediv_add_emod C a).symm
      have h2 : C / a = b * (C / a / b) + (C / a) % b := (Int.mul_ediv_add_emod (C / a) b).symm
      have h3 : 0 ≤ (C / a) % b := Int.emod_nonneg _ (by omega)
      have h4 : (C / a) % b < b := Int.emod_lt_of_pos _ hb
      have h5 : 0 ≤ C % a := Int.emod_nonneg _ (by omega)
      have h6 : C % a < a := Int.emod_lt_of_pos _ (by omega)
      have h7 : C = (C / a) % b * a + C % a + (a * b) * (C / a / b) := by
        have e : a * (C / a) = a * (b * (C / a / b)) + a * ((C / a) % b) := by rw [← Int.mul_add, ← h2]
        have e2 : a * (b * (C / a / b)) = (a * b) * (C / a / b) := (Int.mul_assoc _ _ _).symm
        have e3 : a * ((C / a) % b) = (C / a) % b * a := Int.mul_comm _ _
        omega
      have h8 : (C / a) % b * a + C % a < a * b := by
        have : ((C / a) % b + 1) * a ≤ b * a := Int.mul_le_mul_of_nonneg_right (by omega) (by omega)
        rw [Int.add_mul, Int.one_mul, Int.mul_comm b a] at this
        omega
      have h9 : 0 ≤ (C / a) % b * a := Int.mul_nonneg h3 (by omega)
      conv => rhs; rw [h7]
      rw [Int.add_mul_emod_self_left, Int.emod_eq_of_lt (by omega) h8]
    · rw [Int.mul_zero, Int.emod_zero, Int.emod_zero, Int.mul_comm]
      exact Int.mul_ediv_add_emod C a
theorem rank_cons {d i0 : Int} {s is : List Int} (hs : inE (d :: s)) (hl : (d :: s).length ≤ 4) (hi : ∀ k, k < (d :: s).length → 0 ≤ (i0 :: is).getD k 0 ∧ (i0 :: is).getD k 0 < (d :: s).getD k 0) : ∀ m, m ≤ s.length → rankW (d :: s) (i0 :: is) (m + 1) = i0 * prE (s.take m) + rankW s is m
  | 0, _ => by
    rw [(rank_step hs hl hi (k := 0) (by simp)).1]
    simp [rankW, prE]
  | m + 1, hm => by
    have hi' : ∀ k, k < s.length → 0 ≤ is.getD k 0 ∧ is.getD k 0 < s.getD k 0 := fun k hk => by simpa using hi (k + 1) (by simp; omega)
    rw [(rank_step hs hl hi (k := m + 1) (by simp; omega)).1, rank_cons hs hl hi m (by omega), (rank_step (fun x hx => hs x (by simp [hx])) (by simp at hl; omega) hi' (k := m) (by omega)).1, prE_takes (by omega), List.getD_cons_succ, List.getD_cons_succ, Int.add_mul, Int.mul_assoc]
    omega
theorem sumN_L {e : List Int} (F : Nat → List Int → Int) (n : Nat) : ∀ us nums : List Int, sumN n (fun k => sumL e us (F k) nums) = sumL e us (fun al => sumN n fun k => F k al) nums
  | [], nums => rfl
  | u :: us, nums => by
    simp only [sumL]
    rw [sumN_swap]
    exact sumN_congr fun x _ => sumN_L F n us _

/-! ### the sums over the first dimension -/
def sdV (R : Nat) (vl : List Int) : Nat → List Int
  | 0 => List.replicate R 0
  | k + 1 => addAt (sdV R vl k) ((k % R : Nat) : Int) (vl.getD k 0)
theorem sdV_len (R : Nat) (vl : List Int) : ∀ k, (sdV R vl k).length = R
  | 0 => by simp [sdV]
  | k + 1 => by rw [sdV, addAt, List.length_set, sdV_len R vl k]
theorem sdV_get (R : Nat) (vl : List Int) {r : Nat} (hr : r < R) : ∀ k, (sdV R vl k).getD r 0 = IntKind.i64.wrap (sumN k fun q => if q % R = r then vl.getD q 0 else 0)
  | 0 => by rw [sdV, rep_getD]; rfl
  | k + 1 => by
    rw [sdV, addAt_get (by rw [sdV_len]; exact hr), Int.toNat_natCast, sdV_get R vl hr k, sumN]
    split
    · rw [w_add]
    · rw [Int.add_zero]
def sd0 (x : Tsr) : Option Tsr := if shapeOK (x.sh.drop 1) = true then some ⟨x.sh.drop 1, sdV (prodW (x.sh.drop 1)).toNat x.vl x.vl.length⟩ else none
theorem contr_less {l : List Tsr} {b : List (List Int)} {e us : List Int} {u : Int} {t : Tsr} (hE : extF l b = some e) (ht : contrF l b (u :: us) e = some t) : contrF l b us e = sd0 t := by
  obtain ⟨c1, c2, c3⟩ := contr_get hE ht
  have hx := extOK_of hE
  have hg := contrF_good ht
  obtain ⟨g1, g2, g3, g4, g5⟩ := goodF_facts hg
  have hsh : t.sh.drop 1 = tkn e us := by rw [c1]; rfl
  have hL : labOK us = true := by
    unfold labOK at g1 ⊢
    rw [List.any_cons, Bool.not_or, Bool.and_eq_true] at g1
    exact g1.2
  have hnn : ∀ w ∈ us, 0 ≤ e.getD w.toNat 0 := fun w hw => (g3 _ (List.mem_map.2 ⟨w, by simp [hw], rfl⟩)).1
  have hG : goodF us e = shapeOK (tkn e us) := goodF_ok hL (fun j hj => ⟨hnn _ (gmem hj), fun hm => by
    have := g2 (j + 1) (by simp; omega)
    rw [List.getD_cons_succ, List.take_succ_cons] at this
    exact this (List.mem_cons_of_mem _ hm)⟩) hx.ub
  unfold sd0
  rw [hsh]
  have hcond : prodW (e.map pos1) ≤ 4000 := by
    unfold contrF at ht
    split at ht
    · rename_i hc; exact hc.2
    · simp at ht
  cases hso : shapeOK (tkn e us) with
  | false =>
    rw [if_neg (by simp)]
    unfold contrF
    rw [if_neg]
    rw [hG, hso]
    simp
  | true =>
    rw [if_pos rfl]
    obtain ⟨t', ht'⟩ : ∃ t', contrF l b us e = some t' := by unfold contrF; rw [if_pos ⟨hG.trans hso, hcond⟩]; exact ⟨_, rfl⟩
    obtain ⟨d1, d2, d3⟩ := contr_get hE ht'
    obtain ⟨k1, k2, k3, k4, k5⟩ := goodF_facts (hG.trans hso)
    rw [ht']
    congr 1
    refine tsr_ext3 d1 (by simp only; rw [sdV_len]; exact d2) fun r hr => ?_
    simp only
    rw [d3 r hr]
    have hR : r < (prodW (tkn e us)).toNat := by rw [← d2]; exact hr
    rw [sdV_get _ _ hR]
    generalize hRd : (prodW (tkn e us)).toNat = R at *
    have hRp : prodW (tkn e us) = prE (tkn e us) := prodW_eq k3 (by omega)
    have hNp : prodW (tkn e (u :: us)) = prE (tkn e (u :: us)) := prodW_eq g3 (by omega)
    have hU : ∀ w ∈ u :: us, w ∈ srt b.flatten := fun w hw => by
      have h5 := labOK_mem g1 hw
      rw [srt_mem]
      apply Classical.byContradiction
      intro hn
      have h6 := extF_un hE (k := w.toNat) (by omega) (fun x hxf hxe => hn (by
        have := srt_in hx.lab x hxf
        rwa [show w = x by omega]))
      have := (g3 _ (List.mem_map.2 ⟨w, hw, rfl⟩)).1
      omega
    have hz : ∀ w ∈ srt b.flatten, 0 ≤ w ∧ w.toNat < (List.replicate 5 (0 : Int)).length := fun w hw => by
      have := srt_in hx.lab w ((srt_mem _ w).1 hw)
      simp; omega
    have h1 : IntKind.i64.wrap (sumN t.vl.length fun q => if q % R = r then t.vl.getD q 0 else 0) = IntKind.i64.wrap (sumN t.vl.length fun q => sumL e (srt b.flatten) (fun al => if q % R = r ∧ atR (tkn e (u :: us)) al (u :: us) = q then termS l b al l.length else 0) (List.replicate 5 0)) := by
      refine sumN_wcongr fun q hq => ?_
      by_cases hqr : q % R = r
      · rw [if_pos hqr, c3 q hq, ww_idem, sumG_L]
        congr 1
        refine sumL_congr _ _ hz fun al _ => ?_
        by_cases ha : atR (tkn e (u :: us)) al (u :: us) = q
        · rw [if_pos ha, if_pos ⟨hqr, ha⟩]
        · rw [if_neg ha, if_neg (fun h => ha h.2)]
      · rw [if_neg hqr, sumL_zero _ _ hz fun al _ => if_neg (fun h => hqr h.1)]
    rw [h1, sumN_L, sumG_L]
    congr 1
    refine (sumL_congr _ _ hz fun al hal => ?_).symm
    have hinn : ∀ w ∈ u :: us, 0 ≤ al.getD w.toNat 0 ∧ al.getD w.toNat 0 < e.getD w.toNat 0 := fun w hw => hal.inn w (hU w hw)
    have hrk : ∀ {ws : List Int}, (∀ w ∈ ws, w ∈ u :: us) → ∀ d, d < (tkn e ws).length → 0 ≤ (tkn al ws).getD d 0 ∧ (tkn al ws).getD d 0 < (tkn e ws).getD d 0 := fun {ws} hw d hd => by
      rw [tkn_len] at hd
      rw [tkn_at hd, tkn_at hd]
      exact hinn _ (hw _ (gmem hd))
    have a1 := rank_lt g3 g4 (hrk fun w hw => hw) _ (Nat.le_refl _)
    have a2 := rank_lt k3 k4 (hrk fun w hw => List.mem_cons_of_mem _ hw) _ (Nat.le_refl _)
    rw [List.take_length] at a1 a2
    have a3 := rank_cons (d := e.getD u.toNat 0) (i0 := al.getD u.toNat 0) (s := tkn e us) (is := tkn al us) g3 g4 (hrk fun w hw => hw) (tkn e us).length (Nat.le_refl _)
    rw [List.take_length] at a3
    have a4 : rankW (tkn e (u :: us)) (tkn al (u :: us)) (tkn e (u :: us)).length = al.getD u.toNat 0 * prE (tkn e us) + rankW (tkn e us) (tkn al us) (tkn e us).length := a3
    have hi0 := hinn u (by simp)
    have hq0 : atR (tkn e (u :: us)) al (u :: us) = (al.getD u.toNat 0).toNat * R + atR (tkn e us) al us := by
      unfold atR
      rw [a4, ← hRp]
      have : (prodW (tkn e us)) = (R : Int) := by omega
      rw [this]
      obtain ⟨A, hA⟩ : ∃ A : Nat, al.getD u.toNat 0 = A := ⟨(al.getD u.toNat 0).toNat, by omega⟩
      obtain ⟨B, hB⟩ : ∃ B : Nat, rankW (tkn e us) (tkn al us) (tkn e us).length = B := ⟨(rankW (tkn e us) (tkn al us) (tkn e us).length).toNat, by omega⟩
      rw [hA, hB, ← Int.natCast_mul, ← Int.natCast_add, Int.toNat_natCast, Int.toNat_natCast, Int.toNat_natCast]
    have hlt : atR (tkn e us) al us < R := by unfold atR; omega
    have hN : atR (tkn e (u :: us)) al (u :: us) < t.vl.length := by rw [c2]; unfold atR; omega
    rw [sumN_pick hN (fun q _ hne => if_neg (fun h => hne h.2.symm))]
    have hmod : atR (tkn e (u :: us)) al (u :: us) % R = atR (tkn e us) al us := by
      rw [hq0, Nat.add_comm, Nat.add_mul_mod_self_right, Nat.mod_eq_of_lt hlt]
    by_cases hh : atR (tkn e us) al us = r
    · rw [if_pos ⟨by rw [hmod]; exact hh, rfl⟩, if_pos hh]
    · rw [if_neg (fun h => hh (by rw [← hmod]; exact h.1)), if_neg hh]
end Go.Proofs.Ytfjhhbpipococaa
