/- Contracts of functions that the laws of this seat call. -/
import Derived.Test.YtbibnkgcegbmiaaIg
set_option linter.all false
namespace Go.Proofs.Ytbibnkgcegbmiaa
open Go Go.Ev Go.RowKit Go.Ev.Enc Go.Pl

theorem dec_t3 (x y z : Tsr) : (dec (.ds 0 [.agg [.ds 0 (x.sh.map fun n => .int .i64 n), .ds 0 (x.vl.map fun n => .int .i64 n)], .agg [.ds 0 (y.sh.map fun n => .int .i64 n), .ds 0 (y.vl.map fun n => .int .i64 n)], .agg [.ds 0 (z.sh.map fun n => .int .i64 n), .ds 0 (z.vl.map fun n => .int .i64 n)]]) : Option (List Tsr)) = some [x, y, z] := (ok _ _).2 rfl
theorem ee_t3 (L : List Blk) (x y z : Tsr) : expE (expC 0 L) (.ds 2 [.agg [ints 1 x.sh, ints 1 x.vl], .agg [ints 1 y.sh, ints 1 y.vl], .agg [ints 1 z.sh, ints 1 z.vl]]) = .ds 0 [.agg [.ds 0 (x.sh.map fun n => .int .i64 n), .ds 0 (x.vl.map fun n => .int .i64 n)], .agg [.ds 0 (y.sh.map fun n => .int .i64 n), .ds 0 (y.vl.map fun n => .int .i64 n)], .agg [.ds 0 (z.sh.map fun n => .int .i64 n), .ds 0 (z.vl.map fun n => .int .i64 n)]] := by
  simp [ints, expE, expC, stepC, Function.comp_def]
theorem dec_3l : (dec (.ds 0 [.ds 0 [.int .i64 0, .int .i64 1], .ds 0 [.int .i64 1, .int .i64 2], .ds 0 [.int .i64 2, .int .i64 3]]) : Option (List (List Int))) = some [[0, 1], [1, 2], [2, 3]] := (ok _ _).2 rfl
theorem ee_3l (L : List Blk) : expE (expC 0 L) (.ds 2 [.ds 2 [.int .i64 0, .int .i64 1], .ds 2 [.int .i64 1, .int .i64 2], .ds 2 [.int .i64 2, .int .i64 3]]) = .ds 0 [.ds 0 [.int .i64 0, .int .i64 1], .ds 0 [.int .i64 1, .int .i64 2], .ds 0 [.int .i64 2, .int .i64 3]] := rfl
theorem dec_03 : (dec (.ds 0 [.int .i64 0, .int .i64 3]) : Option (List Int)) = some [0, 3] := (ok _ _).2 rfl
theorem ee_03 (L : List Blk) : expE (expC 0 L) (.ds 2 [.int .i64 0, .int .i64 3]) = .ds 0 [.int .i64 0, .int .i64 3] := rfl
theorem mmR_len (x y : Tsr) : (mmR x y).1.sh.length ≤ 5 ∧ (mmR x y).1.vl.length ≤ 100 := by
  rcases mmR_cases x y with h | ⟨t, h, h1, h2, _⟩
  · rw [h]; exact ⟨by decide, by decide⟩
  · rw [h]; exact ⟨by simp only; omega, by simp only; omega⟩
theorem sz3 {x y z : Tsr} (hx : x.sh.length ≤ 5 ∧ x.vl.length ≤ 100) (hy : y.sh.length ≤ 5 ∧ y.vl.length ≤ 100) (hz : z.sh.length ≤ 5 ∧ z.vl.length ≤ 100) : szOK [x, y, z] [[0, 1], [1, 2], [2, 3]] :=
  ⟨(by decide : 3 < 4294967296), (by decide : 3 < 4294967296), fun k hk => by
    match k, hk with
    | 0, _ => exact ⟨show x.sh.length < 4294967296 by omega, show x.vl.length < 4294967296 by omega⟩
    | 1, _ => exact ⟨show y.sh.length < 4294967296 by omega, show y.vl.length < 4294967296 by omega⟩
    | 2, _ => exact ⟨show z.sh.length < 4294967296 by omega, show z.vl.length < 4294967296 by omega⟩, fun k hk => by match k, hk with | 0, _ => decide | 1, _ => decide | 2, _ => decide⟩
theorem tsrT_len {o : Option Tsr} {t : Tsr} {s : Bool} (h : tsrT o = (t, s)) (hs : ∀ u, o = some u → u.sh.length ≤ 5) : t.sh.length ≤ 5 ∧ t.vl.length ≤ 100 := by
  unfold tsrT at h
  split at h
  · simp only [Prod.mk.injEq] at h
    obtain ⟨rfl, _⟩ := h
    exact ⟨by decide, by decide⟩
  · rename_i u
    split at h
    · rename_i ho
      simp only [Prod.mk.injEq] at h
      obtain ⟨rfl, _⟩ := h
      exact ⟨hs _ rfl, by have := tsr_vl60 ho; omega⟩
    · simp only [Prod.mk.injEq] at h
      obtain ⟨rfl, _⟩ := h
      exact ⟨by decide, by decide⟩
theorem contrF_sh {l : List Tsr} {b : List (List Int)} {out e : List Int} {t : Tsr} (h : contrF l b out e = some t) : t.sh.length = out.length := by
  unfold contrF at h
  split at h
  · have := Option.some.inj h
    subst this
    exact tkn_len _ _
  · simp at h
set_option maxHeartbeats 8000000 in
set_option maxRecDepth 100000 in
theorem law_MatMul3 {Sg Sd : FuncId → Option (List AV → Option AV)} (hS : Sound Try.prog Sg) (hD : Sound Try.prog Sd) (n1 : Sg 36 = none) (h1 : Sg 33 = some (F2 gMatMul)) (h2 : Sg 32 = some (F2 gMatMul)) (h3 : Sg 37 = some (F2 gEqTsr)) (h4 : Sg 39 = some (F2 gTurn)) (h5 : Sg 41 = some (F3 gContr)) (hDr : DrMM) : ∀ a r, F1 gTrueB a = some r → CSpec Try.prog 12 a r := by
  refine F1_spec ?_
  intro bs r hr
  obtain ⟨g1, rfl⟩ := gd_some hr
  refine law3 Try.func12 rfl Try.pf hS hD ?_
  by_cases hb : 1048576 < bs.length
  · repeat' (first | with_reducible refine RegQ.intro (by kernel_rfl) ?_ | with_reducible refine DrawQ.nat (by kernel_rfl) ?_ | ((with_reducible refine condQ_dec (fun hp => ?_) (fun hp => ?_)) <;> try simp only [hp]) | with_reducible refine condQ_beq (fun hp => ?_) (fun hp => ?_) | ((with_reducible refine wantQ_dec (fun hp => ?_) (fun hp => ?_)) <;> try simp only [hp]) | with_reducible refine wantQ_beq (fun hp => ?_) (fun hp => ?_) | ((with_reducible refine condQ_split (fun hp => ?_) (fun hp => ?_)) <;> try simp only [hp]) | ((with_reducible refine wantQ_split (fun hp => ?_) (fun hp => ?_)) <;> try simp only [hp]) | simp -implicitDefEqProofs (disch := omega) only [go_sem, Nat.reduceAdd, Nat.reduceSub, reduceCtorEq, Nat.reduceLT, Nat.reduceLeDiff, Nat.reduceEqDiff, Nat.reduceMul, Int.reduceToNat, ↓reduceIte, List.take_of_length_le, evApp_n1, evApp_i0, evApp_i1, evApp_i2, evApp_i3, evApp_i4, evApp_i5, evApp_s0, evApp_s1, evApp_s2, evApp_s3, if_pos, if_neg, decide_eq_true, decide_eq_false, beq_t, beq_f, wrap_succ, wrap_in, getD_ints, getD_intss, getD_tsrs, fillA_len, fillA_at, fillA_full, evApp_z0, evApp_z1, evApp_z2, evApp_z3, evApp_i6, List.getElem?_set_self, List.set_set, Try.ntmps12, Try.results12])
  · repeat' (first | with_reducible refine RegQ.intro (by kernel_rfl) ?_ | with_reducible refine DrawQ.nat (by kernel_rfl) ?_ | ((with_reducible refine condQ_dec (fun hp => ?_) (fun hp => ?_)) <;> try simp only [hp]) | with_reducible refine condQ_beq (fun hp => ?_) (fun hp => ?_) | ((with_reducible refine wantQ_dec (fun hp => ?_) (fun hp => ?_)) <;> try simp only [hp]) | with_reducible refine wantQ_beq (fun hp => ?_) (fun hp => ?_) | ((with_reducible refine condQ_split (fun hp => ?_) (fun hp => ?_)) <;> try simp only [hp]) | ((with_reducible refine wantQ_split (fun hp => ?_) (fun hp => ?_)) <;> try simp only [hp]) | simp -implicitDefEqProofs (disch := omega) only [go_sem, Nat.reduceAdd, Nat.reduceSub, reduceCtorEq, Nat.reduceLT, Nat.reduceLeDiff, Nat.reduceEqDiff, Nat.reduceMul, Int.reduceToNat, ↓reduceIte, List.take_of_length_le, evApp_n1, evApp_i0, evApp_i1, evApp_i2, evApp_i3, evApp_i4, evApp_i5, evApp_s0, evApp_s1, evApp_s2, evApp_s3, if_pos, if_neg, decide_eq_true, decide_eq_false, beq_t, beq_f, wrap_succ, wrap_in, getD_ints, getD_intss, getD_tsrs, fillA_len, fillA_at, fillA_full, evApp_z0, evApp_z1, evApp_z2, evApp_z3, evApp_i6, List.getElem?_set_self, List.set_set, Try.ntmps12, Try.results12, n1, opQ_none])
    refine InlK_intro rfl rfl can_DrawMatMul ((hDr bs (by omega) _).mono ?_)
    rintro r L1 ⟨w, z, ⟨x1, x2⟩, ⟨y1, y2⟩, rfl, rfl⟩
    have u1 := gMatMul_eq (x := w) (y := z) ⟨⟨by omega, by omega⟩, ⟨by omega, by omega⟩⟩
    rcases mmR_cases w z with hM | ⟨t, hM, m1, m2, m3⟩
    · have u3 : gEqTsr ⟨[], []⟩ ⟨[], []⟩ = some true := gEqTsr_eq (a := ⟨[], []⟩) (b := ⟨[], []⟩) ⟨by decide, by decide⟩
      repeat' (first | with_reducible refine RegQ.intro (by kernel_rfl) ?_ | with_reducible refine DrawQ.nat (by kernel_rfl) ?_ | ((with_reducible refine condQ_dec (fun hp => ?_) (fun hp => ?_)) <;> try simp only [hp]) | with_reducible refine condQ_beq (fun hp => ?_) (fun hp => ?_) | ((with_reducible refine wantQ_dec (fun hp => ?_) (fun hp => ?_)) <;> try simp only [hp]) | with_reducible refine wantQ_beq (fun hp => ?_) (fun hp => ?_) | ((with_reducible refine condQ_split (fun hp => ?_) (fun hp => ?_)) <;> try simp only [hp]) | ((with_reducible refine wantQ_split (fun hp => ?_) (fun hp => ?_)) <;> try simp only [hp]) | simp -implicitDefEqProofs (disch := omega) only [go_sem, Nat.reduceAdd, Nat.reduceSub, reduceCtorEq, Nat.reduceLT, Nat.reduceLeDiff, Nat.reduceEqDiff, Nat.reduceMul, Int.reduceToNat, ↓reduceIte, List.take_of_length_le, evApp_n1, evApp_i0, evApp_i1, evApp_i2, evApp_i3, evApp_i4, evApp_i5, evApp_s0, evApp_s1, evApp_s2, evApp_s3, if_pos, if_neg, decide_eq_true, decide_eq_false, beq_t, beq_f, wrap_succ, wrap_in, getD_ints, getD_intss, getD_tsrs, fillA_len, fillA_at, fillA_full, evApp_z0, evApp_z1, evApp_z2, evApp_z3, evApp_i6, List.getElem?_set_self, List.set_set, Try.ntmps12, Try.results12, h1, u1, h2, hM, h3, u3, dec_zz])
    · have u3 : gEqTsr t t = some true := (gEqTsr_eq (a := t) (b := t) ⟨⟨by omega, by omega⟩, ⟨by omega, by omega⟩⟩).trans (by simp)
      obtain ⟨k1, k2, k3, k4, k5, k6, k7⟩ := mmR_turn hM
      have v2 := gTurn_eq k5 k6
      have l2 : (turnX z).sh.length = 2 := rfl
      obtain ⟨a', b', e', a1', a2', a3', a4'⟩ := mat_sh k5 k6
      have o2 := turn_ok e' k5 a1' a2' a3' a4'
      have b2 := tsr_vl60 o2
      have uX := gMatMul_eq (x := t) (y := turnX z) ⟨⟨by omega, by omega⟩, ⟨by omega, by omega⟩⟩
      have uY := gMatMul_eq (x := z) (y := turnX z) ⟨⟨by omega, by omega⟩, ⟨by omega, by omega⟩⟩
      have bX := mmR_len t (turnX z)
      have bY := mmR_len z (turnX z)
      have uZ := gMatMul_eq (x := w) (y := (mmR z (turnX z)).1) ⟨⟨by omega, by omega⟩, ⟨by omega, by omega⟩⟩
      have bZ := mmR_len w (mmR z (turnX z)).1
      have uA := gContr_eq (l := [w, z, turnX z]) (b := [[0, 1], [1, 2], [2, 3]]) (out := [0, 3]) ⟨sz3 ⟨x1, x2⟩ ⟨y1, y2⟩ ⟨by omega, by omega⟩, by decide⟩
      have hA0 : tsrT ((extF [w, z, turnX z] [[0, 1], [1, 2], [2, 3]]).bind (contrF [w, z, turnX z] [[0, 1], [1, 2], [2, 3]] [0, 3])) = tsrT (m3C w z (turnX z)) := rfl
      rw [hA0] at uA
      cases hX : mmR t (turnX z) with
      | mk X p =>
      cases hY : mmR z (turnX z) with
      | mk Y q =>
      rw [hY] at bY uZ bZ
      simp only at bY uZ bZ
      cases hZ : mmR w Y with
      | mk Z o =>
      cases hA : tsrT (m3C w z (turnX z)) with
      | mk A s =>
      rw [hX] at bX
      rw [hZ] at bZ
      simp only at bX bZ
      have bA := tsrT_len hA (fun u hu => by
        unfold m3C at hu
        simp only [Option.bind_eq_some_iff] at hu
        obtain ⟨e, _, hc⟩ := hu
        rw [contrF_sh hc]; decide)
      cases p with
      | false => repeat' (first | with_reducible refine RegQ.intro (by kernel_rfl) ?_ | with_reducible refine DrawQ.nat (by kernel_rfl) ?_ | ((with_reducible refine condQ_dec (fun hp => ?_) (fun hp => ?_)) <;> try simp only [hp]) | with_reducible refine condQ_beq (fun hp => ?_) (fun hp => ?_) | ((with_reducible refine wantQ_dec (fun hp => ?_) (fun hp => ?_)) <;> try simp only [hp]) | with_reducible refine wantQ_beq (fun hp => ?_) (fun hp => ?_) | ((with_reducible refine condQ_split (fun hp => ?_) (fun hp => ?_)) <;> try simp only [hp]) | ((with_reducible refine wantQ_split (fun hp => ?_) (fun hp => ?_)) <;> try simp only [hp]) | simp -implicitDefEqProofs (disch := omega) only [go_sem, Nat.reduceAdd, Nat.reduceSub, reduceCtorEq, Nat.reduceLT, Nat.reduceLeDiff, Nat.reduceEqDiff, Nat.reduceMul, Int.reduceToNat, ↓reduceIte, List.take_of_length_le, evApp_n1, evApp_i0, evApp_i1, evApp_i2, evApp_i3, evApp_i4, evApp_i5, evApp_s0, evApp_s1, evApp_s2, evApp_s3, if_pos, if_neg, decide_eq_true, decide_eq_false, beq_t, beq_f, wrap_succ, wrap_in, getD_ints, getD_intss, getD_tsrs, fillA_len, fillA_at, fillA_full, evApp_z0, evApp_z1, evApp_z2, evApp_z3, evApp_i6, List.getElem?_set_self, List.set_set, Try.ntmps12, Try.results12, h1, u1, h2, hM, h3, u3, h4, h5, ee_10, dec_10, v2, uX, hX, uY, hY, uZ, hZ, uA, hA, ee_t3, dec_t3, ee_3l, dec_3l, ee_03, dec_03])
      | true =>
      cases q with
      | false => repeat' (first | with_reducible refine RegQ.intro (by kernel_rfl) ?_ | with_reducible refine DrawQ.nat (by kernel_rfl) ?_ | ((with_reducible refine condQ_dec (fun hp => ?_) (fun hp => ?_)) <;> try simp only [hp]) | with_reducible refine condQ_beq (fun hp => ?_) (fun hp => ?_) | ((with_reducible refine wantQ_dec (fun hp => ?_) (fun hp => ?_)) <;> try simp only [hp]) | with_reducible refine wantQ_beq (fun hp => ?_) (fun hp => ?_) | ((with_reducible refine condQ_split (fun hp => ?_) (fun hp => ?_)) <;> try simp only [hp]) | ((with_reducible refine wantQ_split (fun hp => ?_) (fun hp => ?_)) <;> try simp only [hp]) | simp -implicitDefEqProofs (disch := omega) only [go_sem, Nat.reduceAdd, Nat.reduceSub, reduceCtorEq, Nat.reduceLT, Nat.reduceLeDiff, Nat.reduceEqDiff, Nat.reduceMul, Int.reduceToNat, ↓reduceIte, List.take_of_length_le, evApp_n1, evApp_i0, evApp_i1, evApp_i2, evApp_i3, evApp_i4, evApp_i5, evApp_s0, evApp_s1, evApp_s2, evApp_s3, if_pos, if_neg, decide_eq_true, decide_eq_false, beq_t, beq_f, wrap_succ, wrap_in, getD_ints, getD_intss, getD_tsrs, fillA_len, fillA_at, fillA_full, evApp_z0, evApp_z1, evApp_z2, evApp_z3, evApp_i6, List.getElem?_set_self, List.set_set, Try.ntmps12, Try.results12, h1, u1, h2, hM, h3, u3, h4, h5, ee_10, dec_10, v2, uX, hX, uY, hY, uZ, hZ, uA, hA, ee_t3, dec_t3, ee_3l, dec_3l, ee_03, dec_03])
      | true =>
      cases o with
      | false => repeat' (first | with_reducible refine RegQ.intro (by kernel_rfl) ?_ | with_reducible refine DrawQ.nat (by kernel_rfl) ?_ | ((with_reducible refine condQ_dec (fun hp => ?_) (fun hp => ?_)) <;> try simp only [hp]) | with_reducible refine condQ_beq (fun hp => ?_) (fun hp => ?_) | ((with_reducible refine wantQ_dec (fun hp => ?_) (fun hp => ?_)) <;> try simp only [hp]) | with_reducible refine wantQ_beq (fun hp => ?_) (fun hp => ?_) | ((with_reducible refine condQ_split (fun hp => ?_) (fun hp => ?_)) <;> try simp only [hp]) | ((with_reducible refine wantQ_split (fun hp => ?_) (fun hp => ?_)) <;> try simp only [hp]) | simp -implicitDefEqProofs (disch := omega) only [go_sem, Nat.reduceAdd, Nat.reduceSub, reduceCtorEq, Nat.reduceLT, Nat.reduceLeDiff, Nat.reduceEqDiff, Nat.reduceMul, Int.reduceToNat, ↓reduceIte, List.take_of_length_le, evApp_n1, evApp_i0, evApp_i1, evApp_i2, evApp_i3, evApp_i4, evApp_i5, evApp_s0, evApp_s1, evApp_s2, evApp_s3, if_pos, if_neg, decide_eq_true, decide_eq_false, beq_t, beq_f, wrap_succ, wrap_in, getD_ints, getD_intss, getD_tsrs, fillA_len, fillA_at, fillA_full, evApp_z0, evApp_z1, evApp_z2, evApp_z3, evApp_i6, List.getElem?_set_self, List.set_set, Try.ntmps12, Try.results12, h1, u1, h2, hM, h3, u3, h4, h5, ee_10, dec_10, v2, uX, hX, uY, hY, uZ, hZ, uA, hA, ee_t3, dec_t3, ee_3l, dec_3l, ee_03, dec_03])
      | true =>
      have hXZ := mm_assoc hM hX hY hZ
      subst hXZ
      have u4 : gEqTsr X X = some true := (gEqTsr_eq (a := X) (b := X) ⟨⟨by omega, by omega⟩, ⟨by omega, by omega⟩⟩).trans (by simp)
      cases s with
      | false => repeat' (first | with_reducible refine RegQ.intro (by kernel_rfl) ?_ | with_reducible refine DrawQ.nat (by kernel_rfl) ?_ | ((with_reducible refine condQ_dec (fun hp => ?_) (fun hp => ?_)) <;> try simp only [hp]) | with_reducible refine condQ_beq (fun hp => ?_) (fun hp => ?_) | ((with_reducible refine wantQ_dec (fun hp => ?_) (fun hp => ?_)) <;> try simp only [hp]) | with_reducible refine wantQ_beq (fun hp => ?_) (fun hp => ?_) | ((with_reducible refine condQ_split (fun hp => ?_) (fun hp => ?_)) <;> try simp only [hp]) | ((with_reducible refine wantQ_split (fun hp => ?_) (fun hp => ?_)) <;> try simp only [hp]) | simp -implicitDefEqProofs (disch := omega) only [go_sem, Nat.reduceAdd, Nat.reduceSub, reduceCtorEq, Nat.reduceLT, Nat.reduceLeDiff, Nat.reduceEqDiff, Nat.reduceMul, Int.reduceToNat, ↓reduceIte, List.take_of_length_le, evApp_n1, evApp_i0, evApp_i1, evApp_i2, evApp_i3, evApp_i4, evApp_i5, evApp_s0, evApp_s1, evApp_s2, evApp_s3, if_pos, if_neg, decide_eq_true, decide_eq_false, beq_t, beq_f, wrap_succ, wrap_in, getD_ints, getD_intss, getD_tsrs, fillA_len, fillA_at, fillA_full, evApp_z0, evApp_z1, evApp_z2, evApp_z3, evApp_i6, List.getElem?_set_self, List.set_set, Try.ntmps12, Try.results12, h1, u1, h2, hM, h3, u3, h4, h5, ee_10, dec_10, v2, uX, hX, uY, hY, uZ, hZ, uA, hA, ee_t3, dec_t3, ee_3l, dec_3l, ee_03, dec_03, u4])
      | true =>
      have hAX := m3_law hM hX hA
      subst hAX
      repeat' (first | with_reducible refine RegQ.intro (by kernel_rfl) ?_ | with_reducible refine DrawQ.nat (by kernel_rfl) ?_ | ((with_reducible refine condQ_dec (fun hp => ?_) (fun hp => ?_)) <;> try simp only [hp]) | with_reducible refine condQ_beq (fun hp => ?_) (fun hp => ?_) | ((with_reducible refine wantQ_dec (fun hp => ?_) (fun hp => ?_)) <;> try simp only [hp]) | with_reducible refine wantQ_beq (fun hp => ?_) (fun hp => ?_) | ((with_reducible refine condQ_split (fun hp => ?_) (fun hp => ?_)) <;> try simp only [hp]) | ((with_reducible refine wantQ_split (fun hp => ?_) (fun hp => ?_)) <;> try simp only [hp]) | simp -implicitDefEqProofs (disch := omega) only [go_sem, Nat.reduceAdd, Nat.reduceSub, reduceCtorEq, Nat.reduceLT, Nat.reduceLeDiff, Nat.reduceEqDiff, Nat.reduceMul, Int.reduceToNat, ↓reduceIte, List.take_of_length_le, evApp_n1, evApp_i0, evApp_i1, evApp_i2, evApp_i3, evApp_i4, evApp_i5, evApp_s0, evApp_s1, evApp_s2, evApp_s3, if_pos, if_neg, decide_eq_true, decide_eq_false, beq_t, beq_f, wrap_succ, wrap_in, getD_ints, getD_intss, getD_tsrs, fillA_len, fillA_at, fillA_full, evApp_z0, evApp_z1, evApp_z2, evApp_z3, evApp_i6, List.getElem?_set_self, List.set_set, Try.ntmps12, Try.results12, h1, u1, h2, hM, h3, u3, h4, h5, ee_10, dec_10, v2, uX, hX, uY, hY, uZ, hZ, uA, hA, ee_t3, dec_t3, ee_3l, dec_3l, ee_03, dec_03, u4])
end Go.Proofs.Ytbibnkgcegbmiaa
