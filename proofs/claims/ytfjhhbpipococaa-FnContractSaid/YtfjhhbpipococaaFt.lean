/- Contracts of functions that the laws of this seat call. -/
import Derived.Test.YtfjhhbpipococaaFs
set_option linter.all false
namespace Go.Proofs.Ytfjhhbpipococaa
open Go Go.Ev Go.RowKit Go.Ev.Enc Go.Pl

theorem evApp_i6 {B0 B1 B2 B3 B4 B5 : Blk} {L : List Blk} {n by' : Nat} {q : List Int} {x : Int} (hn : q.length = n) (h1 : (n + 1) * by' ≤ 140737488355328) (h2 : n + 1 ≤ 9223372036854775807) :
    evApp (B0 :: B1 :: B2 :: B3 :: B4 :: B5 :: ⟨1, q.map fun n => .int .i64 n⟩ :: L) (.sl 6 n 0 n n) [.int .i64 x] 1 by' = some (.sl 6 (n + 1) 0 (n + 1) (n + 1), B0 :: B1 :: B2 :: B3 :: B4 :: B5 :: ⟨1, (q ++ [x]).map fun n => .int .i64 n⟩ :: L) := evApp_int (L := B0 :: B1 :: B2 :: B3 :: B4 :: B5 :: ⟨1, q.map fun n => .int .i64 n⟩ :: L) (b := 6) rfl hn h1 h2
theorem dec_tsr0 (V : List Int) : (dec (.agg [.ds 0 [], .ds 0 (V.map fun n => .int .i64 n)]) : Option Tsr) = some ⟨[], V⟩ := (ok _ _).2 rfl
theorem tzero_fi : tzero Try.prog 84 = some .any := by kernel_rfl
/-- blocks while the shape grows -/
def shB (l : List Tsr) (b : List (List Int)) (out e : List Int) : Nat → List Int → List Blk
  | 0, _ => [⟨1, [.ds 0 (l.map fun x => .agg [ints 0 x.sh, ints 0 x.vl])]⟩, ⟨1, [.ds 0 (b.map fun r => .ds 0 (r.map fun n => .int .i64 n))]⟩, ⟨1, [ints 0 out]⟩, ⟨2, [.agg [.nilS, .nilS]]⟩, ⟨1, [ints 1 e]⟩, ⟨2, [.agg [.nilS, .nilS]]⟩]
  | k + 1, q => [⟨1, [.ds 0 (l.map fun x => .agg [ints 0 x.sh, ints 0 x.vl])]⟩, ⟨1, [.ds 0 (b.map fun r => .ds 0 (r.map fun n => .int .i64 n))]⟩, ⟨1, [ints 0 out]⟩, ⟨2, [.agg [.nilS, .nilS]]⟩, ⟨1, [ints 1 e]⟩, ⟨2, [.agg [.sl 6 (k + 1) 0 (k + 1) (k + 1), .nilS]]⟩, ⟨1, q.map fun n => .int .i64 n⟩]
set_option maxHeartbeats 2000000 in
set_option maxRecDepth 100000 in
theorem spec_contractI {Sg : FuncId → Option (List AV → Option AV)} (hS : Sound Try.prog Sg) (he : Sg 48 = some (F2 gExtentsOf)) (hl : Sg 50 = some (F1 gAreLabels)) (hc : Sg 63 = some (F2 gContains)) (ha : Sg 73 = some (F1 gAllLabels)) (ho : Sg 74 = some (F2 gCostOver)) (hs : Sg 68 = some (F1 gIsShape)) (hn : Sg 64 = some (F1 gCountOf)) (ht : Sg 76 = some (F2 gTakenOf)) (hr : Sg 66 = some (F2 gRankOf)) (hv : Sg 62 = some (F1 gIsTensor)) (hd : Sg 75 = none) : ∀ a r, F3 gContr3 a = some r → CSpec Try.prog 52 a r := by
  refine spec3 Try.func52 rfl Try.pf hS ?_
  intro l b out r hr0
  obtain ⟨⟨h1, h2⟩, rfl⟩ := gd_some hr0
  cases hE : extF l b with
  | none =>
    repeat' (first | with_reducible refine RegQ.intro (by kernel_rfl) ?_ | ((with_reducible refine condQ_dec (fun hp => ?_) (fun hp => ?_)) <;> try simp only [hp]) | with_reducible refine condQ_beq (fun hp => ?_) (fun hp => ?_) | ((with_reducible refine wantQ_dec (fun hp => ?_) (fun hp => ?_)) <;> try simp only [hp]) | with_reducible refine wantQ_beq (fun hp => ?_) (fun hp => ?_) | ((with_reducible refine condQ_split (fun hp => ?_) (fun hp => ?_)) <;> try simp only [hp]) | ((with_reducible refine wantQ_split (fun hp => ?_) (fun hp => ?_)) <;> try simp only [hp]) | simp -implicitDefEqProofs (disch := omega) only [go_sem, Nat.reduceAdd, Nat.reduceSub, reduceCtorEq, Nat.reduceLT, Nat.reduceLeDiff, Nat.reduceEqDiff, Nat.reduceMul, Int.reduceToNat, ↓reduceIte, List.take_of_length_le, evApp_n1, evApp_i0, evApp_i1, evApp_i2, evApp_i3, evApp_i4, evApp_i5, evApp_s0, evApp_s1, evApp_s2, evApp_s3, if_pos, if_neg, decide_eq_true, decide_eq_false, beq_t, beq_f, wrap_succ, wrap_in, getD_ints, getD_intss, getD_tsrs, fillA_len, fillA_at, fillA_full, evApp_z0, evApp_z1, evApp_z2, evApp_z3, evApp_i6, Try.ntmps52, Try.results52, he, gExtentsOf_eq h1, hE, extRes])
    rfl
  | some e =>
    have hx := extOK_of hE
    cases hL : labOK out with
    | false =>
      have : ((some e).bind (contrF l b out)) = none := by simp [contrF, goodF, hL]
      rw [this]
      repeat' (first | with_reducible refine RegQ.intro (by kernel_rfl) ?_ | ((with_reducible refine condQ_dec (fun hp => ?_) (fun hp => ?_)) <;> try simp only [hp]) | with_reducible refine condQ_beq (fun hp => ?_) (fun hp => ?_) | ((with_reducible refine wantQ_dec (fun hp => ?_) (fun hp => ?_)) <;> try simp only [hp]) | with_reducible refine wantQ_beq (fun hp => ?_) (fun hp => ?_) | ((with_reducible refine condQ_split (fun hp => ?_) (fun hp => ?_)) <;> try simp only [hp]) | ((with_reducible refine wantQ_split (fun hp => ?_) (fun hp => ?_)) <;> try simp only [hp]) | simp -implicitDefEqProofs (disch := omega) only [go_sem, Nat.reduceAdd, Nat.reduceSub, reduceCtorEq, Nat.reduceLT, Nat.reduceLeDiff, Nat.reduceEqDiff, Nat.reduceMul, Int.reduceToNat, ↓reduceIte, List.take_of_length_le, evApp_n1, evApp_i0, evApp_i1, evApp_i2, evApp_i3, evApp_i4, evApp_i5, evApp_s0, evApp_s1, evApp_s2, evApp_s3, if_pos, if_neg, decide_eq_true, decide_eq_false, beq_t, beq_f, wrap_succ, wrap_in, getD_ints, getD_intss, getD_tsrs, fillA_len, fillA_at, fillA_full, evApp_z0, evApp_z1, evApp_z2, evApp_z3, evApp_i6, Try.ntmps52, Try.results52, he, gExtentsOf_eq h1, hE, extRes, hl, gAreLabels_eq, hL])
      rfl
    | true =>
      have hel := hx.len
      repeat' (first | with_reducible refine RegQ.intro (by kernel_rfl) ?_ | ((with_reducible refine condQ_dec (fun hp => ?_) (fun hp => ?_)) <;> try simp only [hp]) | with_reducible refine condQ_beq (fun hp => ?_) (fun hp => ?_) | ((with_reducible refine wantQ_dec (fun hp => ?_) (fun hp => ?_)) <;> try simp only [hp]) | with_reducible refine wantQ_beq (fun hp => ?_) (fun hp => ?_) | ((with_reducible refine condQ_split (fun hp => ?_) (fun hp => ?_)) <;> try simp only [hp]) | ((with_reducible refine wantQ_split (fun hp => ?_) (fun hp => ?_)) <;> try simp only [hp]) | simp -implicitDefEqProofs (disch := omega) only [go_sem, Nat.reduceAdd, Nat.reduceSub, reduceCtorEq, Nat.reduceLT, Nat.reduceLeDiff, Nat.reduceEqDiff, Nat.reduceMul, Int.reduceToNat, ↓reduceIte, List.take_of_length_le, evApp_n1, evApp_i0, evApp_i1, evApp_i2, evApp_i3, evApp_i4, evApp_i5, evApp_s0, evApp_s1, evApp_s2, evApp_s3, if_pos, if_neg, decide_eq_true, decide_eq_false, beq_t, beq_f, wrap_succ, wrap_in, getD_ints, getD_intss, getD_tsrs, fillA_len, fillA_at, fillA_full, evApp_z0, evApp_z1, evApp_z2, evApp_z3, evApp_i6, Try.ntmps52, Try.results52, he, gExtentsOf_eq h1, hE, extRes, hl, gAreLabels_eq, hL])
      refine LoopQ.mix (fun t0 L0 nn ss => ∃ (k : Nat) (q : List Int) (_ : Unit), (∃ x : Nat → AV, ss = ⟨mixL 0 (.k :: .k :: .k :: .k :: .k :: .k :: .k :: .s :: .k :: .k :: .k :: .s :: .s :: .k :: .k :: .k :: .k :: .k :: .k :: .k :: .k :: .k :: .k :: .k :: .k :: .k :: .k :: .k :: .k :: .k :: .k :: .k :: .k :: .v (i64 (k : Nat)) :: .s :: .s :: .s :: .s :: .s :: .s :: .s :: .s :: .s :: .s :: .s :: .s :: .s :: .s :: .s :: .s :: .s :: .s :: .s :: .s :: .s :: .s :: .s :: .s :: .s :: .s :: .s :: .k :: .k :: .k :: .k :: .k :: .k :: .k :: .k :: .k :: .k :: .k :: .k :: .k :: .k :: .k :: .k :: .k :: .k :: .k :: .k :: .k :: .k :: .k :: .k :: .k :: .k :: .k :: []) t0 x, shB l b out e k q⟩) ∧ (k ≤ out.length) ∧ (q = tkn e (out.take k)) ∧ (∀ j, j < k → 0 ≤ e.getD (out.getD j 0).toNat 0 ∧ ¬ out.getD j 0 ∈ out.take j) ∧ nn = out.length - k) ?_ ?_
      · exact ⟨_, ⟨0, [], (), mixJ rfl (rfl), Nat.zero_le _, rfl, fun j hj => absurd hj (Nat.not_lt_zero _), rfl⟩⟩
      · rintro I0 hI0 n ss ⟨k, q, _, ⟨x, rfl⟩, m1, m2, m3, rfl⟩
        have hql : q.length = k := by rw [m2, tkn_len, List.length_take]; omega
        match k, m1, m2, m3, hql with
        | 0, m1, m2, m3, hql =>
          unfold shB
          by_cases hk : 0 < out.length
          · have hlo := labOK_at hL hk
            by_cases hng : e.getD (out.getD (0) 0).toNat 0 < 0
            · have hb := contrF_bad (l := l) (b := b) (goodF_neg hk hng)
              repeat' (first | with_reducible refine RegQ.intro (by kernel_rfl) ?_ | ((with_reducible refine condQ_dec (fun hp => ?_) (fun hp => ?_)) <;> try simp only [hp]) | with_reducible refine condQ_beq (fun hp => ?_) (fun hp => ?_) | ((with_reducible refine wantQ_dec (fun hp => ?_) (fun hp => ?_)) <;> try simp only [hp]) | with_reducible refine wantQ_beq (fun hp => ?_) (fun hp => ?_) | ((with_reducible refine condQ_split (fun hp => ?_) (fun hp => ?_)) <;> try simp only [hp]) | ((with_reducible refine wantQ_split (fun hp => ?_) (fun hp => ?_)) <;> try simp only [hp]) | simp -implicitDefEqProofs (disch := omega) only [go_sem, Nat.reduceAdd, Nat.reduceSub, reduceCtorEq, Nat.reduceLT, Nat.reduceLeDiff, Nat.reduceEqDiff, Nat.reduceMul, Int.reduceToNat, ↓reduceIte, List.take_of_length_le, evApp_n1, evApp_i0, evApp_i1, evApp_i2, evApp_i3, evApp_i4, evApp_i5, evApp_s0, evApp_s1, evApp_s2, evApp_s3, if_pos, if_neg, decide_eq_true, decide_eq_false, beq_t, beq_f, wrap_succ, wrap_in, getD_ints, getD_intss, getD_tsrs, fillA_len, fillA_at, fillA_full, evApp_z0, evApp_z1, evApp_z2, evApp_z3, evApp_i6, Try.ntmps52, Try.results52, hb])
              rfl
            · have q0 : gContains [] (out.getD 0 0) = some false := gContains_eq (by decide) _
              cases hdu : false with
              | true =>
                cases hdu
                skip
                skip
                skip
              | false =>
                repeat' (first | with_reducible refine RegQ.intro (by kernel_rfl) ?_ | ((with_reducible refine condQ_dec (fun hp => ?_) (fun hp => ?_)) <;> try simp only [hp]) | with_reducible refine condQ_beq (fun hp => ?_) (fun hp => ?_) | ((with_reducible refine wantQ_dec (fun hp => ?_) (fun hp => ?_)) <;> try simp only [hp]) | with_reducible refine wantQ_beq (fun hp => ?_) (fun hp => ?_) | ((with_reducible refine condQ_split (fun hp => ?_) (fun hp => ?_)) <;> try simp only [hp]) | ((with_reducible refine wantQ_split (fun hp => ?_) (fun hp => ?_)) <;> try simp only [hp]) | simp -implicitDefEqProofs (disch := omega) only [go_sem, Nat.reduceAdd, Nat.reduceSub, reduceCtorEq, Nat.reduceLT, Nat.reduceLeDiff, Nat.reduceEqDiff, Nat.reduceMul, Int.reduceToNat, ↓reduceIte, List.take_of_length_le, evApp_n1, evApp_i0, evApp_i1, evApp_i2, evApp_i3, evApp_i4, evApp_i5, evApp_s0, evApp_s1, evApp_s2, evApp_s3, if_pos, if_neg, decide_eq_true, decide_eq_false, beq_t, beq_f, wrap_succ, wrap_in, getD_ints, getD_intss, getD_tsrs, fillA_len, fillA_at, fillA_full, evApp_z0, evApp_z1, evApp_z2, evApp_z3, evApp_i6, Try.ntmps52, Try.results52, hc, dec_nilI, q0, hdu])
                have hmem : ¬ out.getD (0) 0 ∈ out.take (0) := by simp
                exact ⟨out.length - (0 + 1), by omega, hI0 _ _ ⟨0 + 1, [e.getD (out.getD 0 0).toNat 0], (), mixJ rfl (rfl), hk, by rw [← tkn_take hk]; rfl, fun j hj => by rcases Nat.lt_or_eq_of_le (Nat.le_of_lt_succ hj) with hj | rfl; exact m3 j hj; exact ⟨by omega, hmem⟩, rfl⟩⟩
          · have hkl : 0 = out.length := by omega
            have hG : goodF out e = shapeOK (tkn e out) := goodF_ok hL (fun j hj => m3 j (by omega)) hx.ub
            have hq : q = tkn e out := by rw [m2, List.take_of_length_le (by omega)]
            subst hq
            have hf := extF_facts hE
            have hbl := hx.bl
            have hl3 := hx.l3
            have qa := gAllLabels_eq (ls := b) ⟨by omega, fun k hk => by have := hf.2.2 k hk; omega⟩
            have h5 := srt5 hf.1
            have qo : gCostOver e (srt b.flatten) = some (prodW (e.map pos1)) := by
              rw [gCostOver_eq (by omega) (fun x hx => by have := srt_in hf.1 x ((srt_mem _ x).1 hx); omega), cost_all hE]
            have qs := gIsShape_eq (l := tkn e out) (by rw [tkn_len]; omega)
            by_cases hN : prodW (e.map pos1) ≤ 4000
            · cases hsh : shapeOK (tkn e out) with
              | false =>
                have hb := contrF_bad (l := l) (b := b) (hG.trans hsh)
                obtain rfl : out = [] := List.length_eq_zero_iff.1 (by omega)
                cases hsh
              | true =>
                have hgood := hG.trans hsh
                obtain ⟨g1, g2, g3, g4, g5⟩ := goodF_facts hgood
                have qn := gCountOf_eq (l := tkn e out) (by omega)
                have hp0 : 0 ≤ prodW (tkn e out) := by rw [prodW_eq g3 (by omega)]; exact prE_nn g3
                have hC : SumCtx l b out e (srt b.flatten) := ⟨hx, h1, by omega, hgood, fun u hu => srt_in hf.1 u ((srt_mem _ u).1 hu), fun u hu => flat_nn hf.2.1 u ((srt_mem _ u).1 hu), srt_asc _, h5⟩
                have hI := isp_sum0 hS ht hr hC (List.length_eq_zero_iff.1 (by omega)) (srt b.flatten) 0 (List.replicate 5 0) (List.replicate (prodW (tkn e out)).toNat 0) (Nat.zero_le _) rfl rfl (by simp) (fun k hk hk0 hkm => by
                  have := extF_un hE hk (fun x hx hxk => hkm (by
                    rw [srt_mem]
                    have := srt_in hf.1 x hx
                    rwa [show (k : Int) = x by omega]))
                  omega)
                rw [sum_contr hE] at hI
                have hcf : contrF l b out e = some ⟨tkn e out, contrV l b out (tkn e out) (e.map pos1) (prodW (e.map pos1)).toNat⟩ := by simp [contrF, hgood, hN]
                have hVl := contrV_len l b out (tkn e out) (e.map pos1) (prodW (e.map pos1)).toNat
                generalize contrV l b out (tkn e out) (e.map pos1) (prodW (e.map pos1)).toNat = V at *
                have qv := gIsTensor_eq (x := ⟨tkn e out, V⟩) (by simp only; omega) (by simp only; omega)
                obtain rfl : out = [] := List.length_eq_zero_iff.1 (by omega)
                have qs : gIsShape [] = some true := rfl
                have qn : gCountOf [] = some 1 := rfl
                simp only [Lc0, List.length_replicate] at hI
                skip
                cases htk : tsrOK ⟨tkn e [], V⟩ with
                | true =>
                  have qv2 : gIsTensor ⟨[], V⟩ = some true := qv.trans (congrArg some htk)
                  repeat' (first | with_reducible refine RegQ.intro (by kernel_rfl) ?_ | ((with_reducible refine condQ_dec (fun hp => ?_) (fun hp => ?_)) <;> try simp only [hp]) | with_reducible refine condQ_beq (fun hp => ?_) (fun hp => ?_) | ((with_reducible refine wantQ_dec (fun hp => ?_) (fun hp => ?_)) <;> try simp only [hp]) | with_reducible refine wantQ_beq (fun hp => ?_) (fun hp => ?_) | ((with_reducible refine condQ_split (fun hp => ?_) (fun hp => ?_)) <;> try simp only [hp]) | ((with_reducible refine wantQ_split (fun hp => ?_) (fun hp => ?_)) <;> try simp only [hp]) | simp -implicitDefEqProofs (disch := omega) only [go_sem, Nat.reduceAdd, Nat.reduceSub, reduceCtorEq, Nat.reduceLT, Nat.reduceLeDiff, Nat.reduceEqDiff, Nat.reduceMul, Int.reduceToNat, ↓reduceIte, List.take_of_length_le, evApp_n1, evApp_i0, evApp_i1, evApp_i2, evApp_i3, evApp_i4, evApp_i5, evApp_s0, evApp_s1, evApp_s2, evApp_s3, if_pos, if_neg, decide_eq_true, decide_eq_false, beq_t, beq_f, wrap_succ, wrap_in, getD_ints, getD_intss, getD_tsrs, fillA_len, fillA_at, fillA_full, evApp_z0, evApp_z1, evApp_z2, evApp_z3, evApp_i6, Try.ntmps52, Try.results52, ha, qa, ho, qo, hs, qs, hsh, hn, qn, dec_nilI, tsize_fi, tagg_fi, tzero_fi])
                  refine InlK_intro rfl rfl can_sum (hI.mono ?_)
                  rintro r L2 ⟨rfl, nums2, k1, k2, rfl⟩
                  repeat' (first | with_reducible refine RegQ.intro (by kernel_rfl) ?_ | ((with_reducible refine condQ_dec (fun hp => ?_) (fun hp => ?_)) <;> try simp only [hp]) | with_reducible refine condQ_beq (fun hp => ?_) (fun hp => ?_) | ((with_reducible refine wantQ_dec (fun hp => ?_) (fun hp => ?_)) <;> try simp only [hp]) | with_reducible refine wantQ_beq (fun hp => ?_) (fun hp => ?_) | ((with_reducible refine condQ_split (fun hp => ?_) (fun hp => ?_)) <;> try simp only [hp]) | ((with_reducible refine wantQ_split (fun hp => ?_) (fun hp => ?_)) <;> try simp only [hp]) | simp -implicitDefEqProofs (disch := omega) only [go_sem, Nat.reduceAdd, Nat.reduceSub, reduceCtorEq, Nat.reduceLT, Nat.reduceLeDiff, Nat.reduceEqDiff, Nat.reduceMul, Int.reduceToNat, ↓reduceIte, List.take_of_length_le, evApp_n1, evApp_i0, evApp_i1, evApp_i2, evApp_i3, evApp_i4, evApp_i5, evApp_s0, evApp_s1, evApp_s2, evApp_s3, if_pos, if_neg, decide_eq_true, decide_eq_false, beq_t, beq_f, wrap_succ, wrap_in, getD_ints, getD_intss, getD_tsrs, fillA_len, fillA_at, fillA_full, evApp_z0, evApp_z1, evApp_z2, evApp_z3, evApp_i6, Try.ntmps52, Try.results52, hv, qv2, dec_tsr0, htk, hcf, tsrT, dec_nilI])
                  rfl
                | false =>
                  have qv2 : gIsTensor ⟨[], V⟩ = some false := qv.trans (congrArg some htk)
                  repeat' (first | with_reducible refine RegQ.intro (by kernel_rfl) ?_ | ((with_reducible refine condQ_dec (fun hp => ?_) (fun hp => ?_)) <;> try simp only [hp]) | with_reducible refine condQ_beq (fun hp => ?_) (fun hp => ?_) | ((with_reducible refine wantQ_dec (fun hp => ?_) (fun hp => ?_)) <;> try simp only [hp]) | with_reducible refine wantQ_beq (fun hp => ?_) (fun hp => ?_) | ((with_reducible refine condQ_split (fun hp => ?_) (fun hp => ?_)) <;> try simp only [hp]) | ((with_reducible refine wantQ_split (fun hp => ?_) (fun hp => ?_)) <;> try simp only [hp]) | simp -implicitDefEqProofs (disch := omega) only [go_sem, Nat.reduceAdd, Nat.reduceSub, reduceCtorEq, Nat.reduceLT, Nat.reduceLeDiff, Nat.reduceEqDiff, Nat.reduceMul, Int.reduceToNat, ↓reduceIte, List.take_of_length_le, evApp_n1, evApp_i0, evApp_i1, evApp_i2, evApp_i3, evApp_i4, evApp_i5, evApp_s0, evApp_s1, evApp_s2, evApp_s3, if_pos, if_neg, decide_eq_true, decide_eq_false, beq_t, beq_f, wrap_succ, wrap_in, getD_ints, getD_intss, getD_tsrs, fillA_len, fillA_at, fillA_full, evApp_z0, evApp_z1, evApp_z2, evApp_z3, evApp_i6, Try.ntmps52, Try.results52, ha, qa, ho, qo, hs, qs, hsh, hn, qn, dec_nilI, tsize_fi, tagg_fi, tzero_fi])
                  refine InlK_intro rfl rfl can_sum (hI.mono ?_)
                  rintro r L2 ⟨rfl, nums2, k1, k2, rfl⟩
                  repeat' (first | with_reducible refine RegQ.intro (by kernel_rfl) ?_ | ((with_reducible refine condQ_dec (fun hp => ?_) (fun hp => ?_)) <;> try simp only [hp]) | with_reducible refine condQ_beq (fun hp => ?_) (fun hp => ?_) | ((with_reducible refine wantQ_dec (fun hp => ?_) (fun hp => ?_)) <;> try simp only [hp]) | with_reducible refine wantQ_beq (fun hp => ?_) (fun hp => ?_) | ((with_reducible refine condQ_split (fun hp => ?_) (fun hp => ?_)) <;> try simp only [hp]) | ((with_reducible refine wantQ_split (fun hp => ?_) (fun hp => ?_)) <;> try simp only [hp]) | simp -implicitDefEqProofs (disch := omega) only [go_sem, Nat.reduceAdd, Nat.reduceSub, reduceCtorEq, Nat.reduceLT, Nat.reduceLeDiff, Nat.reduceEqDiff, Nat.reduceMul, Int.reduceToNat, ↓reduceIte, List.take_of_length_le, evApp_n1, evApp_i0, evApp_i1, evApp_i2, evApp_i3, evApp_i4, evApp_i5, evApp_s0, evApp_s1, evApp_s2, evApp_s3, if_pos, if_neg, decide_eq_true, decide_eq_false, beq_t, beq_f, wrap_succ, wrap_in, getD_ints, getD_intss, getD_tsrs, fillA_len, fillA_at, fillA_full, evApp_z0, evApp_z1, evApp_z2, evApp_z3, evApp_i6, Try.ntmps52, Try.results52, hv, qv2, dec_tsr0, htk, hcf, tsrT, dec_nilI])
                  rfl
            · have hb : contrF l b out e = none := by simp [contrF, hN]
              repeat' (first | with_reducible refine RegQ.intro (by kernel_rfl) ?_ | ((with_reducible refine condQ_dec (fun hp => ?_) (fun hp => ?_)) <;> try simp only [hp]) | with_reducible refine condQ_beq (fun hp => ?_) (fun hp => ?_) | ((with_reducible refine wantQ_dec (fun hp => ?_) (fun hp => ?_)) <;> try simp only [hp]) | with_reducible refine wantQ_beq (fun hp => ?_) (fun hp => ?_) | ((with_reducible refine condQ_split (fun hp => ?_) (fun hp => ?_)) <;> try simp only [hp]) | ((with_reducible refine wantQ_split (fun hp => ?_) (fun hp => ?_)) <;> try simp only [hp]) | simp -implicitDefEqProofs (disch := omega) only [go_sem, Nat.reduceAdd, Nat.reduceSub, reduceCtorEq, Nat.reduceLT, Nat.reduceLeDiff, Nat.reduceEqDiff, Nat.reduceMul, Int.reduceToNat, ↓reduceIte, List.take_of_length_le, evApp_n1, evApp_i0, evApp_i1, evApp_i2, evApp_i3, evApp_i4, evApp_i5, evApp_s0, evApp_s1, evApp_s2, evApp_s3, if_pos, if_neg, decide_eq_true, decide_eq_false, beq_t, beq_f, wrap_succ, wrap_in, getD_ints, getD_intss, getD_tsrs, fillA_len, fillA_at, fillA_full, evApp_z0, evApp_z1, evApp_z2, evApp_z3, evApp_i6, Try.ntmps52, Try.results52, ha, qa, ho, qo, hb])
              rfl
        | k + 1, m1, m2, m3, hql =>
          unfold shB
          by_cases hk : k + 1 < out.length
          · have hlo := labOK_at hL hk
            by_cases hng : e.getD (out.getD (k + 1) 0).toNat 0 < 0
            · have hb := contrF_bad (l := l) (b := b) (goodF_neg hk hng)
              repeat' (first | with_reducible refine RegQ.intro (by kernel_rfl) ?_ | ((with_reducible refine condQ_dec (fun hp => ?_) (fun hp => ?_)) <;> try simp only [hp]) | with_reducible refine condQ_beq (fun hp => ?_) (fun hp => ?_) | ((with_reducible refine wantQ_dec (fun hp => ?_) (fun hp => ?_)) <;> try simp only [hp]) | with_reducible refine wantQ_beq (fun hp => ?_) (fun hp => ?_) | ((with_reducible refine condQ_split (fun hp => ?_) (fun hp => ?_)) <;> try simp only [hp]) | ((with_reducible refine wantQ_split (fun hp => ?_) (fun hp => ?_)) <;> try simp only [hp]) | simp -implicitDefEqProofs (disch := omega) only [go_sem, Nat.reduceAdd, Nat.reduceSub, reduceCtorEq, Nat.reduceLT, Nat.reduceLeDiff, Nat.reduceEqDiff, Nat.reduceMul, Int.reduceToNat, ↓reduceIte, List.take_of_length_le, evApp_n1, evApp_i0, evApp_i1, evApp_i2, evApp_i3, evApp_i4, evApp_i5, evApp_s0, evApp_s1, evApp_s2, evApp_s3, if_pos, if_neg, decide_eq_true, decide_eq_false, beq_t, beq_f, wrap_succ, wrap_in, getD_ints, getD_intss, getD_tsrs, fillA_len, fillA_at, fillA_full, evApp_z0, evApp_z1, evApp_z2, evApp_z3, evApp_i6, Try.ntmps52, Try.results52, hb])
              rfl
            · have q0 := gContains_eq (l := out.take (k + 1)) (by rw [List.length_take]; omega) (out.getD (k + 1) 0)
              cases hdu : (out.take (k + 1)).contains (out.getD (k + 1) 0) with
              | true =>
                skip
                have hb := contrF_bad (l := l) (b := b) (e := e) (goodF_dup hk (List.contains_iff_mem.1 hdu))
                repeat' (first | with_reducible refine RegQ.intro (by kernel_rfl) ?_ | ((with_reducible refine condQ_dec (fun hp => ?_) (fun hp => ?_)) <;> try simp only [hp]) | with_reducible refine condQ_beq (fun hp => ?_) (fun hp => ?_) | ((with_reducible refine wantQ_dec (fun hp => ?_) (fun hp => ?_)) <;> try simp only [hp]) | with_reducible refine wantQ_beq (fun hp => ?_) (fun hp => ?_) | ((with_reducible refine condQ_split (fun hp => ?_) (fun hp => ?_)) <;> try simp only [hp]) | ((with_reducible refine wantQ_split (fun hp => ?_) (fun hp => ?_)) <;> try simp only [hp]) | simp -implicitDefEqProofs (disch := omega) only [go_sem, Nat.reduceAdd, Nat.reduceSub, reduceCtorEq, Nat.reduceLT, Nat.reduceLeDiff, Nat.reduceEqDiff, Nat.reduceMul, Int.reduceToNat, ↓reduceIte, List.take_of_length_le, evApp_n1, evApp_i0, evApp_i1, evApp_i2, evApp_i3, evApp_i4, evApp_i5, evApp_s0, evApp_s1, evApp_s2, evApp_s3, if_pos, if_neg, decide_eq_true, decide_eq_false, beq_t, beq_f, wrap_succ, wrap_in, getD_ints, getD_intss, getD_tsrs, fillA_len, fillA_at, fillA_full, evApp_z0, evApp_z1, evApp_z2, evApp_z3, evApp_i6, Try.ntmps52, Try.results52, hc, q0, hdu, hb])
                rfl
              | false =>
                repeat' (first | with_reducible refine RegQ.intro (by kernel_rfl) ?_ | ((with_reducible refine condQ_dec (fun hp => ?_) (fun hp => ?_)) <;> try simp only [hp]) | with_reducible refine condQ_beq (fun hp => ?_) (fun hp => ?_) | ((with_reducible refine wantQ_dec (fun hp => ?_) (fun hp => ?_)) <;> try simp only [hp]) | with_reducible refine wantQ_beq (fun hp => ?_) (fun hp => ?_) | ((with_reducible refine condQ_split (fun hp => ?_) (fun hp => ?_)) <;> try simp only [hp]) | ((with_reducible refine wantQ_split (fun hp => ?_) (fun hp => ?_)) <;> try simp only [hp]) | simp -implicitDefEqProofs (disch := omega) only [go_sem, Nat.reduceAdd, Nat.reduceSub, reduceCtorEq, Nat.reduceLT, Nat.reduceLeDiff, Nat.reduceEqDiff, Nat.reduceMul, Int.reduceToNat, ↓reduceIte, List.take_of_length_le, evApp_n1, evApp_i0, evApp_i1, evApp_i2, evApp_i3, evApp_i4, evApp_i5, evApp_s0, evApp_s1, evApp_s2, evApp_s3, if_pos, if_neg, decide_eq_true, decide_eq_false, beq_t, beq_f, wrap_succ, wrap_in, getD_ints, getD_intss, getD_tsrs, fillA_len, fillA_at, fillA_full, evApp_z0, evApp_z1, evApp_z2, evApp_z3, evApp_i6, Try.ntmps52, Try.results52, hc, dec_nilI, q0, hdu])
                have hmem : ¬ out.getD (k + 1) 0 ∈ out.take (k + 1) := fun hm => by rw [List.contains_iff_mem.2 hm] at hdu; exact Bool.noConfusion hdu
                exact ⟨out.length - (k + 1 + 1), by omega, hI0 _ _ ⟨k + 1 + 1, _, (), mixJ rfl (rfl), hk, by rw [← tkn_take hk, m2], fun j hj => by rcases Nat.lt_or_eq_of_le (Nat.le_of_lt_succ hj) with hj | rfl; exact m3 j hj; exact ⟨by omega, hmem⟩, rfl⟩⟩
          · have hkl : k + 1 = out.length := by omega
            have hG : goodF out e = shapeOK (tkn e out) := goodF_ok hL (fun j hj => m3 j (by omega)) hx.ub
            have hq : q = tkn e out := by rw [m2, List.take_of_length_le (by omega)]
            subst hq
            have hf := extF_facts hE
            have hbl := hx.bl
            have hl3 := hx.l3
            have qa := gAllLabels_eq (ls := b) ⟨by omega, fun k hk => by have := hf.2.2 k hk; omega⟩
            have h5 := srt5 hf.1
            have qo : gCostOver e (srt b.flatten) = some (prodW (e.map pos1)) := by
              rw [gCostOver_eq (by omega) (fun x hx => by have := srt_in hf.1 x ((srt_mem _ x).1 hx); omega), cost_all hE]
            have qs := gIsShape_eq (l := tkn e out) (by rw [tkn_len]; omega)
            by_cases hN : prodW (e.map pos1) ≤ 4000
            · cases hsh : shapeOK (tkn e out) with
              | false =>
                have hb := contrF_bad (l := l) (b := b) (hG.trans hsh)
                repeat' (first | with_reducible refine RegQ.intro (by kernel_rfl) ?_ | ((with_reducible refine condQ_dec (fun hp => ?_) (fun hp => ?_)) <;> try simp only [hp]) | with_reducible refine condQ_beq (fun hp => ?_) (fun hp => ?_) | ((with_reducible refine wantQ_dec (fun hp => ?_) (fun hp => ?_)) <;> try simp only [hp]) | with_reducible refine wantQ_beq (fun hp => ?_) (fun hp => ?_) | ((with_reducible refine condQ_split (fun hp => ?_) (fun hp => ?_)) <;> try simp only [hp]) | ((with_reducible refine wantQ_split (fun hp => ?_) (fun hp => ?_)) <;> try simp only [hp]) | simp -implicitDefEqProofs (disch := omega) only [go_sem, Nat.reduceAdd, Nat.reduceSub, reduceCtorEq, Nat.reduceLT, Nat.reduceLeDiff, Nat.reduceEqDiff, Nat.reduceMul, Int.reduceToNat, ↓reduceIte, List.take_of_length_le, evApp_n1, evApp_i0, evApp_i1, evApp_i2, evApp_i3, evApp_i4, evApp_i5, evApp_s0, evApp_s1, evApp_s2, evApp_s3, if_pos, if_neg, decide_eq_true, decide_eq_false, beq_t, beq_f, wrap_succ, wrap_in, getD_ints, getD_intss, getD_tsrs, fillA_len, fillA_at, fillA_full, evApp_z0, evApp_z1, evApp_z2, evApp_z3, evApp_i6, Try.ntmps52, Try.results52, ha, qa, ho, qo, hs, qs, hsh, hb])
                rfl
              | true =>
                have hgood := hG.trans hsh
                obtain ⟨g1, g2, g3, g4, g5⟩ := goodF_facts hgood
                have qn := gCountOf_eq (l := tkn e out) (by omega)
                have hp0 : 0 ≤ prodW (tkn e out) := by rw [prodW_eq g3 (by omega)]; exact prE_nn g3
                have hC : SumCtx l b out e (srt b.flatten) := ⟨hx, h1, by omega, hgood, fun u hu => srt_in hf.1 u ((srt_mem _ u).1 hu), fun u hu => flat_nn hf.2.1 u ((srt_mem _ u).1 hu), srt_asc _, h5⟩
                have hI := isp_sum1 hS ht hr hC  (srt b.flatten) 0 (List.replicate 5 0) (List.replicate (prodW (tkn e out)).toNat 0) (Nat.zero_le _) rfl rfl (by simp) (fun k hk hk0 hkm => by
                  have := extF_un hE hk (fun x hx hxk => hkm (by
                    rw [srt_mem]
                    have := srt_in hf.1 x hx
                    rwa [show (k : Int) = x by omega]))
                  omega)
                rw [sum_contr hE] at hI
                have hcf : contrF l b out e = some ⟨tkn e out, contrV l b out (tkn e out) (e.map pos1) (prodW (e.map pos1)).toNat⟩ := by simp [contrF, hgood, hN]
                have hVl := contrV_len l b out (tkn e out) (e.map pos1) (prodW (e.map pos1)).toNat
                generalize contrV l b out (tkn e out) (e.map pos1) (prodW (e.map pos1)).toNat = V at *
                have qv := gIsTensor_eq (x := ⟨tkn e out, V⟩) (by simp only; omega) (by simp only; omega)
                skip
                skip
                skip
                simp only [Lc1, List.length_replicate, tkn_len, ← hkl] at hI
                have htl : (tkn e out).length = k + 1 := by rw [tkn_len, hkl]
                cases htk : tsrOK ⟨tkn e out, V⟩ with
                | true =>
                  skip
                  repeat' (first | with_reducible refine RegQ.intro (by kernel_rfl) ?_ | ((with_reducible refine condQ_dec (fun hp => ?_) (fun hp => ?_)) <;> try simp only [hp]) | with_reducible refine condQ_beq (fun hp => ?_) (fun hp => ?_) | ((with_reducible refine wantQ_dec (fun hp => ?_) (fun hp => ?_)) <;> try simp only [hp]) | with_reducible refine wantQ_beq (fun hp => ?_) (fun hp => ?_) | ((with_reducible refine condQ_split (fun hp => ?_) (fun hp => ?_)) <;> try simp only [hp]) | ((with_reducible refine wantQ_split (fun hp => ?_) (fun hp => ?_)) <;> try simp only [hp]) | simp -implicitDefEqProofs (disch := omega) only [go_sem, Nat.reduceAdd, Nat.reduceSub, reduceCtorEq, Nat.reduceLT, Nat.reduceLeDiff, Nat.reduceEqDiff, Nat.reduceMul, Int.reduceToNat, ↓reduceIte, List.take_of_length_le, evApp_n1, evApp_i0, evApp_i1, evApp_i2, evApp_i3, evApp_i4, evApp_i5, evApp_s0, evApp_s1, evApp_s2, evApp_s3, if_pos, if_neg, decide_eq_true, decide_eq_false, beq_t, beq_f, wrap_succ, wrap_in, getD_ints, getD_intss, getD_tsrs, fillA_len, fillA_at, fillA_full, evApp_z0, evApp_z1, evApp_z2, evApp_z3, evApp_i6, Try.ntmps52, Try.results52, ha, qa, ho, qo, hs, qs, hsh, hn, qn, dec_nilI, tsize_fi, tagg_fi, tzero_fi])
                  refine InlK_intro rfl rfl can_sum (hI.mono ?_)
                  rintro r L2 ⟨rfl, nums2, k1, k2, rfl⟩
                  repeat' (first | with_reducible refine RegQ.intro (by kernel_rfl) ?_ | ((with_reducible refine condQ_dec (fun hp => ?_) (fun hp => ?_)) <;> try simp only [hp]) | with_reducible refine condQ_beq (fun hp => ?_) (fun hp => ?_) | ((with_reducible refine wantQ_dec (fun hp => ?_) (fun hp => ?_)) <;> try simp only [hp]) | with_reducible refine wantQ_beq (fun hp => ?_) (fun hp => ?_) | ((with_reducible refine condQ_split (fun hp => ?_) (fun hp => ?_)) <;> try simp only [hp]) | ((with_reducible refine wantQ_split (fun hp => ?_) (fun hp => ?_)) <;> try simp only [hp]) | simp -implicitDefEqProofs (disch := omega) only [go_sem, Nat.reduceAdd, Nat.reduceSub, reduceCtorEq, Nat.reduceLT, Nat.reduceLeDiff, Nat.reduceEqDiff, Nat.reduceMul, Int.reduceToNat, ↓reduceIte, List.take_of_length_le, evApp_n1, evApp_i0, evApp_i1, evApp_i2, evApp_i3, evApp_i4, evApp_i5, evApp_s0, evApp_s1, evApp_s2, evApp_s3, if_pos, if_neg, decide_eq_true, decide_eq_false, beq_t, beq_f, wrap_succ, wrap_in, getD_ints, getD_intss, getD_tsrs, fillA_len, fillA_at, fillA_full, evApp_z0, evApp_z1, evApp_z2, evApp_z3, evApp_i6, Try.ntmps52, Try.results52, hv, qv, htk, hcf, tsrT, dec_nilI])
                  skip
                | false =>
                  skip
                  repeat' (first | with_reducible refine RegQ.intro (by kernel_rfl) ?_ | ((with_reducible refine condQ_dec (fun hp => ?_) (fun hp => ?_)) <;> try simp only [hp]) | with_reducible refine condQ_beq (fun hp => ?_) (fun hp => ?_) | ((with_reducible refine wantQ_dec (fun hp => ?_) (fun hp => ?_)) <;> try simp only [hp]) | with_reducible refine wantQ_beq (fun hp => ?_) (fun hp => ?_) | ((with_reducible refine condQ_split (fun hp => ?_) (fun hp => ?_)) <;> try simp only [hp]) | ((with_reducible refine wantQ_split (fun hp => ?_) (fun hp => ?_)) <;> try simp only [hp]) | simp -implicitDefEqProofs (disch := omega) only [go_sem, Nat.reduceAdd, Nat.reduceSub, reduceCtorEq, Nat.reduceLT, Nat.reduceLeDiff, Nat.reduceEqDiff, Nat.reduceMul, Int.reduceToNat, ↓reduceIte, List.take_of_length_le, evApp_n1, evApp_i0, evApp_i1, evApp_i2, evApp_i3, evApp_i4, evApp_i5, evApp_s0, evApp_s1, evApp_s2, evApp_s3, if_pos, if_neg, decide_eq_true, decide_eq_false, beq_t, beq_f, wrap_succ, wrap_in, getD_ints, getD_intss, getD_tsrs, fillA_len, fillA_at, fillA_full, evApp_z0, evApp_z1, evApp_z2, evApp_z3, evApp_i6, Try.ntmps52, Try.results52, ha, qa, ho, qo, hs, qs, hsh, hn, qn, dec_nilI, tsize_fi, tagg_fi, tzero_fi])
                  refine InlK_intro rfl rfl can_sum (hI.mono ?_)
                  rintro r L2 ⟨rfl, nums2, k1, k2, rfl⟩
                  repeat' (first | with_reducible refine RegQ.intro (by kernel_rfl) ?_ | ((with_reducible refine condQ_dec (fun hp => ?_) (fun hp => ?_)) <;> try simp only [hp]) | with_reducible refine condQ_beq (fun hp => ?_) (fun hp => ?_) | ((with_reducible refine wantQ_dec (fun hp => ?_) (fun hp => ?_)) <;> try simp only [hp]) | with_reducible refine wantQ_beq (fun hp => ?_) (fun hp => ?_) | ((with_reducible refine condQ_split (fun hp => ?_) (fun hp => ?_)) <;> try simp only [hp]) | ((with_reducible refine wantQ_split (fun hp => ?_) (fun hp => ?_)) <;> try simp only [hp]) | simp -implicitDefEqProofs (disch := omega) only [go_sem, Nat.reduceAdd, Nat.reduceSub, reduceCtorEq, Nat.reduceLT, Nat.reduceLeDiff, Nat.reduceEqDiff, Nat.reduceMul, Int.reduceToNat, ↓reduceIte, List.take_of_length_le, evApp_n1, evApp_i0, evApp_i1, evApp_i2, evApp_i3, evApp_i4, evApp_i5, evApp_s0, evApp_s1, evApp_s2, evApp_s3, if_pos, if_neg, decide_eq_true, decide_eq_false, beq_t, beq_f, wrap_succ, wrap_in, getD_ints, getD_intss, getD_tsrs, fillA_len, fillA_at, fillA_full, evApp_z0, evApp_z1, evApp_z2, evApp_z3, evApp_i6, Try.ntmps52, Try.results52, hv, qv, htk, hcf, tsrT, dec_nilI])
                  rfl
            · have hb : contrF l b out e = none := by simp [contrF, hN]
              repeat' (first | with_reducible refine RegQ.intro (by kernel_rfl) ?_ | ((with_reducible refine condQ_dec (fun hp => ?_) (fun hp => ?_)) <;> try simp only [hp]) | with_reducible refine condQ_beq (fun hp => ?_) (fun hp => ?_) | ((with_reducible refine wantQ_dec (fun hp => ?_) (fun hp => ?_)) <;> try simp only [hp]) | with_reducible refine wantQ_beq (fun hp => ?_) (fun hp => ?_) | ((with_reducible refine condQ_split (fun hp => ?_) (fun hp => ?_)) <;> try simp only [hp]) | ((with_reducible refine wantQ_split (fun hp => ?_) (fun hp => ?_)) <;> try simp only [hp]) | simp -implicitDefEqProofs (disch := omega) only [go_sem, Nat.reduceAdd, Nat.reduceSub, reduceCtorEq, Nat.reduceLT, Nat.reduceLeDiff, Nat.reduceEqDiff, Nat.reduceMul, Int.reduceToNat, ↓reduceIte, List.take_of_length_le, evApp_n1, evApp_i0, evApp_i1, evApp_i2, evApp_i3, evApp_i4, evApp_i5, evApp_s0, evApp_s1, evApp_s2, evApp_s3, if_pos, if_neg, decide_eq_true, decide_eq_false, beq_t, beq_f, wrap_succ, wrap_in, getD_ints, getD_intss, getD_tsrs, fillA_len, fillA_at, fillA_full, evApp_z0, evApp_z1, evApp_z2, evApp_z3, evApp_i6, Try.ntmps52, Try.results52, ha, qa, ho, qo, hb])
              rfl
end Go.Proofs.Ytfjhhbpipococaa
