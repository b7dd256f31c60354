/- Contracts of functions that the laws of this seat call. -/
import Derived.Test.YtfjhhbpipococaaLj
set_option linter.all false
namespace Go.Proofs.Ytfjhhbpipococaa
open Go Go.Ev Go.RowKit Go.Ev.Enc Go.Pl

theorem diff_nodup {l : List Int} : (∀ k, k < l.length → ¬ l.getD k 0 ∈ l.take k) ↔ l.Nodup := by
  unfold List.Nodup
  rw [List.pairwise_iff_getElem]
  constructor
  · intro h i j hi hj hij he
    refine h j hj ?_
    rw [List.mem_iff_getElem]
    exact ⟨i, by rw [List.length_take]; omega, by simp [hj, he]⟩
  · intro h k hk hm
    obtain ⟨i, hi, he⟩ := List.mem_iff_getElem.1 hm
    rw [List.length_take] at hi
    refine h i k (by omega) hk (by omega) ?_
    simpa [hk] using he
theorem tkn_rev (e l : List Int) : tkn e l.reverse = (tkn e l).reverse := by simp [tkn, List.map_reverse]
theorem good_rev {out e : List Int} (h : goodF out e = true) : goodF out.reverse e = true := by
  obtain ⟨g1, g2, _, _, _⟩ := goodF_facts h
  unfold goodF diffF at h ⊢
  simp only [Bool.and_eq_true, decide_eq_true_eq] at h ⊢
  refine ⟨⟨⟨?_, ?_⟩, ?_⟩, ?_⟩
  · unfold labOK at g1 ⊢
    rw [List.any_reverse]; exact g1
  · rw [diff_nodup]
    unfold List.Nodup
    rw [List.pairwise_reverse]
    exact (diff_nodup.1 g2).imp fun h => h.symm
  · rw [tkn_rev, List.all_reverse]; exact h.1.2
  · rw [tkn_rev]; exact (shape_rev h.2).1
theorem contr_back {l : List Tsr} {b : List (List Int)} {out e : List Int} {t : Tsr} (hE : extF l b = some e) (ht : contrF l b out e = some t) : contrF l b out.reverse e = some (turnR t) := by
  obtain ⟨c1, c2, c3⟩ := contr_get hE ht
  have hx := extOK_of hE
  have hg := contrF_good ht
  obtain ⟨g1, g2, g3, g4, g5⟩ := goodF_facts hg
  have hcond : prodW (e.map pos1) ≤ 4000 := by
    unfold contrF at ht
    split at ht
    · rename_i hc; exact hc.2
    · simp at ht
  obtain ⟨t', ht'⟩ : ∃ t', contrF l b out.reverse e = some t' := by unfold contrF; rw [if_pos ⟨good_rev hg, hcond⟩]; exact ⟨_, rfl⟩
  obtain ⟨d1, d2, d3⟩ := contr_get hE ht'
  obtain ⟨k1, k2, k3, k4, k5⟩ := goodF_facts (good_rev hg)
  rw [ht']
  congr 1
  rw [tkn_rev] at d1 d2 d3 k3 k4 k5
  have hU : ∀ w ∈ out, w ∈ srt b.flatten := fun w hw => by
    have h5 := labOK_mem g1 hw
    rw [srt_mem]
    apply Classical.byContradiction
    intro hn
    have h6 := extF_un hE (k := w.toNat) (by omega) (fun x hxf hxe => hn (by
      have := srt_in hx.lab x hxf
      rwa [show w = x by omega]))
    have := (g3 _ (List.mem_map.2 ⟨w, hw, rfl⟩)).1
    omega
  have hz : ∀ w ∈ srt b.flatten, 0 ≤ w ∧ w.toNat < (List.replicate 5 (0 : Int)).length := fun w hw => by
    have := srt_in hx.lab w ((srt_mem _ w).1 hw)
    simp; omega
  refine tsr_ext3 (by rw [d1, ← c1]; rfl) (by rw [d2, ← c1]; exact (turnQ_len _ _).symm) fun r hr => ?_
  rw [d3 r hr]
  rw [d2] at hr
  have hp1 := prodW_eq k3 (by omega)
  have hp2 := prodW_eq g3 (by omega)
  rw [prE_rev] at hp1
  have htq : (turnR t).vl.getD r 0 = turnAt t r := by
    show (turnQ t (prodW t.sh.reverse).toNat).getD r 0 = _
    unfold turnQ
    rw [c1]
    simp [hr]
  rw [htq]
  unfold turnAt
  rw [c1]
  have hpos : ∀ d ∈ tkn e out, 1 ≤ d := prE_pos g3 (by omega)
  have hposr : ∀ i, i < (tkn e out).reverse.length → 1 ≤ (tkn e out).reverse.getD i 0 := fun i hi => hpos _ (by have := gmem hi; simpa using this)
  have hxl := unrF_len (tkn e out).reverse (r : Int)
  have hru := rank_unr (s := (tkn e out).reverse) k3 (fun d hd => hpos d (by simpa using hd)) k4 (k := (r : Int)) (by omega) _ (Nat.le_refl _)
  rw [Nat.sub_self, List.take_length, prE_rev] at hru
  have hru2 : rankW (tkn e out).reverse (unrF (tkn e out).reverse (r : Int)) (tkn e out).reverse.length = (r : Int) := by
    rw [hru]
    show (r : Int) % _ = _
    exact Int.emod_eq_of_lt (by omega) (by omega)
  have hbx := fun d hd => unrF_bd hposr (k := (r : Int)) (by omega) (m := d) hd
  generalize unrF (tkn e out).reverse (r : Int) = x at *
  rw [List.length_reverse] at hxl
  have hbr := rev_bd (s := tkn e out) (i := x) hxl hbx
  have hlt := rank_lt g3 g4 hbr _ (Nat.le_refl _)
  rw [List.take_length] at hlt
  have hq := c3 (rankW (tkn e out) x.reverse (tkn e out).length).toNat (by rw [c2]; omega)
  rw [hq, sumG_L, sumG_L]
  congr 1
  refine sumL_congr _ _ hz fun al hal => ?_
  have hba : ∀ d, d < (tkn e out).length → 0 ≤ (tkn al out).getD d 0 ∧ (tkn al out).getD d 0 < (tkn e out).getD d 0 := fun d hd => by
    rw [tkn_len] at hd
    rw [tkn_at hd, tkn_at hd]
    exact hal.inn _ (hU _ (gmem hd))
  have hal' : (tkn al out).length = (tkn e out).length := by rw [tkn_len, tkn_len]
  have hbar : ∀ d, d < (tkn e out).reverse.length → 0 ≤ (tkn al out).reverse.getD d 0 ∧ (tkn al out).reverse.getD d 0 < (tkn e out).reverse.getD d 0 := by
    have := rev_bd (s := (tkn e out).reverse) (i := tkn al out) (by rw [List.length_reverse]; exact hal') (by rw [List.reverse_reverse]; exact hba)
    exact this
  have hlta := rank_lt g3 g4 hba _ (Nat.le_refl _)
  have hltr := rank_lt k3 k4 hbar _ (Nat.le_refl _)
  have hiff : atR (tkn e out).reverse al out.reverse = r ↔ atR (tkn e out) al out = (rankW (tkn e out) x.reverse (tkn e out).length).toNat := by
    unfold atR
    rw [tkn_rev]
    constructor
    · intro h
      have h1 : (tkn al out).reverse = x := ints_ext (by rw [List.length_reverse, hal', hxl]) fun d hd =>
        rank_inj k3 k4 hbar hbx _ (Nat.le_refl _) (by omega) d (by rw [List.length_reverse] at hd ⊢; omega)
      have h2 : tkn al out = x.reverse := by rw [← h1, List.reverse_reverse]
      rw [h2]
    · intro h
      have h1 : tkn al out = x.reverse := ints_ext (by rw [List.length_reverse, hal', hxl]) fun d hd =>
        rank_inj g3 g4 hba hbr _ (Nat.le_refl _) (by omega) d (by omega)
      rw [h1, List.reverse_reverse, hru2]
      rfl
  by_cases hh : atR (tkn e out) al out = (rankW (tkn e out) x.reverse (tkn e out).length).toNat
  · rw [if_pos (hiff.2 hh), if_pos hh]
  · rw [if_neg (fun h => hh (hiff.1 h)), if_neg hh]
theorem turn_ok {t : Tsr} (h : tsrOK t = true) : tsrOK (turnR t) = true := by
  have hs := shape_of h
  obtain ⟨s1, s2⟩ := shape_rev hs
  have h' := h
  unfold tsrOK at h' ⊢
  simp only [Bool.and_eq_true, decide_eq_true_eq, Bool.not_eq_true'] at h' ⊢
  obtain ⟨⟨a1, a2⟩, a3⟩ := h'
  refine ⟨⟨s1, ?_⟩, ?_⟩
  · show ((turnQ t (prodW t.sh.reverse).toNat).length : Int) = prodW t.sh.reverse
    rw [turnQ_len, s2]; omega
  · show (turnQ t (prodW t.sh.reverse).toNat).any notEnt = false
    rw [List.any_eq_false] at a3 ⊢
    intro x hx
    unfold turnQ at hx
    obtain ⟨k, _, rfl⟩ := List.mem_map.1 hx
    unfold turnAt
    generalize (rankW t.sh (unrF t.sh.reverse (k : Int)).reverse t.sh.length).toNat = q
    by_cases hq : q < t.vl.length
    · exact a3 _ (gmem hq)
    · rw [List.getD_eq_getElem?_getD, List.getElem?_eq_none (Nat.le_of_not_lt hq)]
      decide
theorem ee_rev (L : List Blk) (q : List Int) : expE (expC 0 L) (ints 1 q) = ints 0 q := by simp [expE, expC, stepC, ints, Function.comp_def]
set_option maxHeartbeats 8000000 in
set_option maxRecDepth 100000 in
theorem law_Con {Sg Sd : FuncId → Option (List AV → Option AV)} (hS : Sound Try.prog Sg) (hD : Sound Try.prog Sd) (n1 : Sg 31 = none) (h1 : Sg 26 = some (F3 gContr)) (h2 : Sg 32 = some (F3 gContr)) (h3 : Sg 25 = some (F2 gEqTsr)) (h4 : Sd 25 = some (F2 gEqTsr)) (h5 : Sg 33 = some (F2 gExtentsOf)) (h6 : Sg 34 = some (F1 gBack)) (h7 : Sd 34 = some (F1 gBack)) (h8 : Sd 36 = some (F2 gTakenOf)) (h9 : Sd 35 = some (F2 gEqInts)) (hu : Sd 38 = some (F1 gUpTo)) (ht : Sd 37 = some (F2 gTurnR)) (hDr : DrCo) : ∀ a r, F1 gTrueB a = some r → CSpec Try.prog 6 a r := by
  refine F1_spec ?_
  intro bs r hr
  obtain ⟨g1, rfl⟩ := gd_some hr
  refine law3 Try.func6 rfl Try.pf hS hD ?_
  by_cases hb : 1048576 < bs.length
  · repeat' (first | with_reducible refine RegQ.intro (by kernel_rfl) ?_ | with_reducible refine DrawQ.nat (by kernel_rfl) ?_ | ((with_reducible refine condQ_dec (fun hp => ?_) (fun hp => ?_)) <;> try simp only [hp]) | with_reducible refine condQ_beq (fun hp => ?_) (fun hp => ?_) | ((with_reducible refine wantQ_dec (fun hp => ?_) (fun hp => ?_)) <;> try simp only [hp]) | with_reducible refine wantQ_beq (fun hp => ?_) (fun hp => ?_) | ((with_reducible refine condQ_split (fun hp => ?_) (fun hp => ?_)) <;> try simp only [hp]) | ((with_reducible refine wantQ_split (fun hp => ?_) (fun hp => ?_)) <;> try simp only [hp]) | simp -implicitDefEqProofs (disch := omega) only [go_sem, Nat.reduceAdd, Nat.reduceSub, reduceCtorEq, Nat.reduceLT, Nat.reduceLeDiff, Nat.reduceEqDiff, Nat.reduceMul, Int.reduceToNat, ↓reduceIte, List.take_of_length_le, evApp_n1, evApp_i0, evApp_i1, evApp_i2, evApp_i3, evApp_i4, evApp_i5, evApp_s0, evApp_s1, evApp_s2, evApp_s3, if_pos, if_neg, decide_eq_true, decide_eq_false, beq_t, beq_f, wrap_succ, wrap_in, getD_ints, getD_intss, getD_tsrs, fillA_len, fillA_at, fillA_full, evApp_z0, evApp_z1, evApp_z2, evApp_z3, evApp_i6, List.getElem?_set_self, List.set_set, Try.ntmps6, Try.results6])
  · repeat' (first | with_reducible refine RegQ.intro (by kernel_rfl) ?_ | with_reducible refine DrawQ.nat (by kernel_rfl) ?_ | ((with_reducible refine condQ_dec (fun hp => ?_) (fun hp => ?_)) <;> try simp only [hp]) | with_reducible refine condQ_beq (fun hp => ?_) (fun hp => ?_) | ((with_reducible refine wantQ_dec (fun hp => ?_) (fun hp => ?_)) <;> try simp only [hp]) | with_reducible refine wantQ_beq (fun hp => ?_) (fun hp => ?_) | ((with_reducible refine condQ_split (fun hp => ?_) (fun hp => ?_)) <;> try simp only [hp]) | ((with_reducible refine wantQ_split (fun hp => ?_) (fun hp => ?_)) <;> try simp only [hp]) | simp -implicitDefEqProofs (disch := omega) only [go_sem, Nat.reduceAdd, Nat.reduceSub, reduceCtorEq, Nat.reduceLT, Nat.reduceLeDiff, Nat.reduceEqDiff, Nat.reduceMul, Int.reduceToNat, ↓reduceIte, List.take_of_length_le, evApp_n1, evApp_i0, evApp_i1, evApp_i2, evApp_i3, evApp_i4, evApp_i5, evApp_s0, evApp_s1, evApp_s2, evApp_s3, if_pos, if_neg, decide_eq_true, decide_eq_false, beq_t, beq_f, wrap_succ, wrap_in, getD_ints, getD_intss, getD_tsrs, fillA_len, fillA_at, fillA_full, evApp_z0, evApp_z1, evApp_z2, evApp_z3, evApp_i6, List.getElem?_set_self, List.set_set, Try.ntmps6, Try.results6, n1, opQ_none])
    refine InlK_intro rfl rfl can_DrawContract ((hDr bs (by omega) _).mono ?_)
    rintro r L1 ⟨xs, ls, out, hd, rfl, rfl⟩
    have u1 := gContr_eq hd.sz
    obtain ⟨t, o, hT⟩ : ∃ t o, tsrT ((extF xs ls).bind (contrF xs ls out)) = (t, o) := ⟨_, _, rfl⟩
    rw [hT] at u1
    have u3 := eqT_self (tsrT_facts2 hT).2
    cases o with
    | false =>
      repeat' (first | with_reducible refine RegQ.intro (by kernel_rfl) ?_ | with_reducible refine DrawQ.nat (by kernel_rfl) ?_ | ((with_reducible refine condQ_dec (fun hp => ?_) (fun hp => ?_)) <;> try simp only [hp]) | with_reducible refine condQ_beq (fun hp => ?_) (fun hp => ?_) | ((with_reducible refine wantQ_dec (fun hp => ?_) (fun hp => ?_)) <;> try simp only [hp]) | with_reducible refine wantQ_beq (fun hp => ?_) (fun hp => ?_) | ((with_reducible refine condQ_split (fun hp => ?_) (fun hp => ?_)) <;> try simp only [hp]) | ((with_reducible refine wantQ_split (fun hp => ?_) (fun hp => ?_)) <;> try simp only [hp]) | simp -implicitDefEqProofs (disch := omega) only [go_sem, Nat.reduceAdd, Nat.reduceSub, reduceCtorEq, Nat.reduceLT, Nat.reduceLeDiff, Nat.reduceEqDiff, Nat.reduceMul, Int.reduceToNat, ↓reduceIte, List.take_of_length_le, evApp_n1, evApp_i0, evApp_i1, evApp_i2, evApp_i3, evApp_i4, evApp_i5, evApp_s0, evApp_s1, evApp_s2, evApp_s3, if_pos, if_neg, decide_eq_true, decide_eq_false, beq_t, beq_f, wrap_succ, wrap_in, getD_ints, getD_intss, getD_tsrs, fillA_len, fillA_at, fillA_full, evApp_z0, evApp_z1, evApp_z2, evApp_z3, evApp_i6, List.getElem?_set_self, List.set_set, Try.ntmps6, Try.results6, h1, u1, h2, h3, u3])
    | true =>
      have hc := (tsrT_true hT).1
      have hok := (tsrT_true hT).2
      have hc' := hc
      simp only [Option.bind_eq_some_iff] at hc'
      obtain ⟨e, hE, hcF⟩ := hc'
      obtain ⟨c1, c2, c3⟩ := contr_get hE hcF
      have hx := extOK_of hE
      obtain ⟨k1, k2, k3, k4, k5⟩ := goodF_facts (contrF_good hcF)
      have hob := hd.ob
      have hback : (extF xs ls).bind (contrF xs ls out.reverse) = some (turnR t) := by rw [hE, Option.bind_some, contr_back hE hcF]
      have u4 := gExtentsOf_eq hd.sz.1
      rw [hE] at u4
      have u5 := gBack_eq (l := out) (by omega)
      have u6 := gContr_eq (l := xs) (b := ls) (out := out.reverse) ⟨hd.sz.1, by rw [List.length_reverse]; omega⟩
      rw [hback, show tsrT (some (turnR t)) = (turnR t, true) by simp [tsrT, turn_ok hok]] at u6
      have u7 : gTakenOf e out = some t.sh := by
        rw [c1]
        exact gTakenOf_eq ⟨by omega, by rw [hx.len]; exact labOK_idx k1 rfl⟩
      have hsl : t.sh.length = out.length := by rw [c1, tkn_len]
      have u8 : gEqInts t.sh t.sh = some true := (gEqInts_eq (a := t.sh) (b := t.sh) ⟨by omega, by omega⟩).trans (by simp)
      have u9 := gUpTo_eq (n := out.length) (by omega)
      have ua := gBack_eq (l := upF out.length) (by rw [upF_len]; omega)
      have ub := gTurnR_eq hok
      rw [hsl] at ub
      have ub : gTurnR t (upF out.length).reverse = some (turnR t) := ub
      have hul := upF_len out.length
      have uc := (tsr_vl60 (turn_ok hok))
      have ud := eqT_self (t := turnR t) ⟨by show t.sh.reverse.length ≤ 1048576; rw [List.length_reverse]; omega, uc⟩
      repeat' (first | with_reducible refine RegQ.intro (by kernel_rfl) ?_ | with_reducible refine DrawQ.nat (by kernel_rfl) ?_ | ((with_reducible refine condQ_dec (fun hp => ?_) (fun hp => ?_)) <;> try simp only [hp]) | with_reducible refine condQ_beq (fun hp => ?_) (fun hp => ?_) | ((with_reducible refine wantQ_dec (fun hp => ?_) (fun hp => ?_)) <;> try simp only [hp]) | with_reducible refine wantQ_beq (fun hp => ?_) (fun hp => ?_) | ((with_reducible refine condQ_split (fun hp => ?_) (fun hp => ?_)) <;> try simp only [hp]) | ((with_reducible refine wantQ_split (fun hp => ?_) (fun hp => ?_)) <;> try simp only [hp]) | simp -implicitDefEqProofs (disch := omega) only [go_sem, Nat.reduceAdd, Nat.reduceSub, reduceCtorEq, Nat.reduceLT, Nat.reduceLeDiff, Nat.reduceEqDiff, Nat.reduceMul, Int.reduceToNat, ↓reduceIte, List.take_of_length_le, evApp_n1, evApp_i0, evApp_i1, evApp_i2, evApp_i3, evApp_i4, evApp_i5, evApp_s0, evApp_s1, evApp_s2, evApp_s3, if_pos, if_neg, decide_eq_true, decide_eq_false, beq_t, beq_f, wrap_succ, wrap_in, getD_ints, getD_intss, getD_tsrs, fillA_len, fillA_at, fillA_full, evApp_z0, evApp_z1, evApp_z2, evApp_z3, evApp_i6, List.getElem?_set_self, List.set_set, Try.ntmps6, Try.results6, h1, u1, h2, h3, u3, h5, u4, extRes, h6, u5, u6, h7, h8, u7, h9, u8, hu, u9, ua, ht, ub, h4, ud])
end Go.Proofs.Ytfjhhbpipococaa
