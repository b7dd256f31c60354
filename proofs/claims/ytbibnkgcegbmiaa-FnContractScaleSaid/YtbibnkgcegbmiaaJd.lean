/- Contracts of functions that the laws of this seat call. -/
import Derived.Test.YtbibnkgcegbmiaaJc
set_option linter.all false
namespace Go.Proofs.Ytbibnkgcegbmiaa
open Go Go.Ev Go.RowKit Go.Ev.Enc Go.Pl

theorem tsrT_lenJ {o : Option Tsr} {t : Tsr} {s : Bool} (h : tsrT o = (t, s)) (hs : ∀ u, o = some u → u.sh.length ≤ 10) : t.sh.length ≤ 10 ∧ t.vl.length ≤ 100 := by
  unfold tsrT at h
  split at h
  · simp only [Prod.mk.injEq] at h
    obtain ⟨rfl, _⟩ := h
    exact ⟨by decide, by decide⟩
  · rename_i u
    split at h
    · rename_i ho
      simp only [Prod.mk.injEq] at h
      obtain ⟨rfl, _⟩ := h
      exact ⟨hs _ rfl, by have := tsr_vl60 ho; omega⟩
    · simp only [Prod.mk.injEq] at h
      obtain ⟨rfl, _⟩ := h
      exact ⟨by decide, by decide⟩
theorem contrF_shJ {l : List Tsr} {b : List (List Int)} {out e : List Int} {t : Tsr} (h : contrF l b out e = some t) : t.sh.length = out.length := by
  unfold contrF at h
  split at h
  · have := Option.some.inj h
    subst this
    exact tkn_len _ _
  · simp at h
theorem rev_drop1 {α : Type} {l : List α} {m : Nat} (d : α) (h : m < l.length) : (l.drop (m + 1)).reverse ++ [l.getD m d] = (l.drop m).reverse := by
  rw [List.drop_eq_getElem_cons h, List.reverse_cons]
  simp [h]
theorem tsrT_ok {o : Option Tsr} {t : Tsr} (h : tsrT o = (t, true)) : o = some t ∧ tsrOK t = true := by
  unfold tsrT at h
  split at h
  · simp at h
  · split at h
    · rename_i ho
      simp only [Prod.mk.injEq, and_true] at h
      subst h; exact ⟨rfl, ho⟩
    · simp at h
theorem getD_ts {l : List Tsr} {k : Nat} (h : k < l.length) : (l.map fun x => AV.agg [ints 1 x.sh, ints 1 x.vl]).getD k .any = .agg [ints 1 (l.getD k ⟨[], []⟩).sh, ints 1 (l.getD k ⟨[], []⟩).vl] := by simp [h]
theorem getD_ls {l : List (List Int)} {k : Nat} (h : k < l.length) : (l.map fun r => AV.ds 1 (r.map fun n => .int .i64 n)).getD k .any = .ds 1 ((l.getD k []).map fun n => .int .i64 n) := by simp [h]
theorem DrC.sz_rev {xs : List Tsr} {ls : List (List Int)} {out : List Int} (h : DrC xs ls out) : szOK xs.reverse ls.reverse := by
  have h' : DrC xs.reverse ls.reverse out := ⟨by simpa using h.l1, by simpa using h.l3, by simpa using h.ll, fun x hx => h.xb x (by simpa using hx), fun l hl => h.lb l (by simpa using hl), h.ob⟩
  exact h'.sz.1
set_option maxHeartbeats 8000000 in
set_option maxRecDepth 100000 in
theorem law_Order {Sg Sd : FuncId → Option (List AV → Option AV)} (hS : Sound Try.prog Sg) (hD : Sound Try.prog Sd) (n1 : Sg 40 = none) (h1 : Sg 41 = some (F3 gContr)) (h2 : Sg 42 = some (F3 gContr)) (h3 : Sg 37 = some (F2 gEqTsr)) (hDr : DrCo) : ∀ a r, F1 gTrueB a = some r → CSpec Try.prog 9 a r := by
  refine F1_spec ?_
  intro bs r hr
  obtain ⟨g1, rfl⟩ := gd_some hr
  refine law3 Try.func9 rfl Try.pf hS hD ?_
  by_cases hb : 1048576 < bs.length
  · repeat' (first | with_reducible refine RegQ.intro (by kernel_rfl) ?_ | with_reducible refine DrawQ.nat (by kernel_rfl) ?_ | ((with_reducible refine condQ_dec (fun hp => ?_) (fun hp => ?_)) <;> try simp only [hp]) | with_reducible refine condQ_beq (fun hp => ?_) (fun hp => ?_) | ((with_reducible refine wantQ_dec (fun hp => ?_) (fun hp => ?_)) <;> try simp only [hp]) | with_reducible refine wantQ_beq (fun hp => ?_) (fun hp => ?_) | ((with_reducible refine condQ_split (fun hp => ?_) (fun hp => ?_)) <;> try simp only [hp]) | ((with_reducible refine wantQ_split (fun hp => ?_) (fun hp => ?_)) <;> try simp only [hp]) | simp -implicitDefEqProofs (disch := omega) only [go_sem, Nat.reduceAdd, Nat.reduceSub, reduceCtorEq, Nat.reduceLT, Nat.reduceLeDiff, Nat.reduceEqDiff, Nat.reduceMul, Int.reduceToNat, ↓reduceIte, List.take_of_length_le, evApp_n1, evApp_i0, evApp_i1, evApp_i2, evApp_i3, evApp_i4, evApp_i5, evApp_s0, evApp_s1, evApp_s2, evApp_s3, if_pos, if_neg, decide_eq_true, decide_eq_false, beq_t, beq_f, wrap_succ, wrap_in, getD_ints, getD_intss, getD_tsrs, fillA_len, fillA_at, fillA_full, evApp_z0, evApp_z1, evApp_z2, evApp_z3, evApp_i6, List.getElem?_set_self, List.set_set, Try.ntmps9, Try.results9])
  · repeat' (first | with_reducible refine RegQ.intro (by kernel_rfl) ?_ | with_reducible refine DrawQ.nat (by kernel_rfl) ?_ | ((with_reducible refine condQ_dec (fun hp => ?_) (fun hp => ?_)) <;> try simp only [hp]) | with_reducible refine condQ_beq (fun hp => ?_) (fun hp => ?_) | ((with_reducible refine wantQ_dec (fun hp => ?_) (fun hp => ?_)) <;> try simp only [hp]) | with_reducible refine wantQ_beq (fun hp => ?_) (fun hp => ?_) | ((with_reducible refine condQ_split (fun hp => ?_) (fun hp => ?_)) <;> try simp only [hp]) | ((with_reducible refine wantQ_split (fun hp => ?_) (fun hp => ?_)) <;> try simp only [hp]) | simp -implicitDefEqProofs (disch := omega) only [go_sem, Nat.reduceAdd, Nat.reduceSub, reduceCtorEq, Nat.reduceLT, Nat.reduceLeDiff, Nat.reduceEqDiff, Nat.reduceMul, Int.reduceToNat, ↓reduceIte, List.take_of_length_le, evApp_n1, evApp_i0, evApp_i1, evApp_i2, evApp_i3, evApp_i4, evApp_i5, evApp_s0, evApp_s1, evApp_s2, evApp_s3, if_pos, if_neg, decide_eq_true, decide_eq_false, beq_t, beq_f, wrap_succ, wrap_in, getD_ints, getD_intss, getD_tsrs, fillA_len, fillA_at, fillA_full, evApp_z0, evApp_z1, evApp_z2, evApp_z3, evApp_i6, List.getElem?_set_self, List.set_set, Try.ntmps9, Try.results9, n1, opQ_none])
    refine InlK_intro rfl rfl can_DrawContract ((hDr bs (by omega) _).mono ?_)
    rintro r L1 ⟨xs, ls, out, hd, rfl, rfl⟩
    have u1 := gContr_eq hd.sz
    cases hT : tsrT ((extF xs ls).bind (contrF xs ls out)) with
    | mk t o =>
    rw [hT] at u1
    have bt := tsrT_lenJ hT (fun u hu => by
      simp only [Option.bind_eq_some_iff] at hu
      obtain ⟨e, _, hc⟩ := hu
      rw [contrF_shJ hc]
      have := hd.ob
      omega)
    have u3 : gEqTsr t t = some true := (gEqTsr_eq (a := t) (b := t) ⟨⟨by omega, by omega⟩, ⟨by omega, by omega⟩⟩).trans (by simp)
    cases o with
    | false =>
      repeat' (first | with_reducible refine RegQ.intro (by kernel_rfl) ?_ | with_reducible refine DrawQ.nat (by kernel_rfl) ?_ | ((with_reducible refine condQ_dec (fun hp => ?_) (fun hp => ?_)) <;> try simp only [hp]) | with_reducible refine condQ_beq (fun hp => ?_) (fun hp => ?_) | ((with_reducible refine wantQ_dec (fun hp => ?_) (fun hp => ?_)) <;> try simp only [hp]) | with_reducible refine wantQ_beq (fun hp => ?_) (fun hp => ?_) | ((with_reducible refine condQ_split (fun hp => ?_) (fun hp => ?_)) <;> try simp only [hp]) | ((with_reducible refine wantQ_split (fun hp => ?_) (fun hp => ?_)) <;> try simp only [hp]) | simp -implicitDefEqProofs (disch := omega) only [go_sem, Nat.reduceAdd, Nat.reduceSub, reduceCtorEq, Nat.reduceLT, Nat.reduceLeDiff, Nat.reduceEqDiff, Nat.reduceMul, Int.reduceToNat, ↓reduceIte, List.take_of_length_le, evApp_n1, evApp_i0, evApp_i1, evApp_i2, evApp_i3, evApp_i4, evApp_i5, evApp_s0, evApp_s1, evApp_s2, evApp_s3, if_pos, if_neg, decide_eq_true, decide_eq_false, beq_t, beq_f, wrap_succ, wrap_in, getD_ints, getD_intss, getD_tsrs, fillA_len, fillA_at, fillA_full, evApp_z0, evApp_z1, evApp_z2, evApp_z3, evApp_i6, List.getElem?_set_self, List.set_set, Try.ntmps9, Try.results9, h1, u1, h2, h3, u3])
    | true =>
      have hl1 := hd.l1
      have hl3 := hd.l3
      have hll := hd.ll
      have hx := contr_rev (tsrT_ok hT).1
      have hk := (tsrT_ok hT).2
      have u2 := gContr_eq (l := xs.reverse) (b := ls.reverse) (out := out) ⟨DrC.sz_rev hd, by have := hd.ob; omega⟩
      rw [hx, show tsrT (some t) = (t, true) by simp [tsrT, hk]] at u2
      repeat' (first | with_reducible refine RegQ.intro (by kernel_rfl) ?_ | with_reducible refine DrawQ.nat (by kernel_rfl) ?_ | ((with_reducible refine condQ_dec (fun hp => ?_) (fun hp => ?_)) <;> try simp only [hp]) | with_reducible refine condQ_beq (fun hp => ?_) (fun hp => ?_) | ((with_reducible refine wantQ_dec (fun hp => ?_) (fun hp => ?_)) <;> try simp only [hp]) | with_reducible refine wantQ_beq (fun hp => ?_) (fun hp => ?_) | ((with_reducible refine condQ_split (fun hp => ?_) (fun hp => ?_)) <;> try simp only [hp]) | ((with_reducible refine wantQ_split (fun hp => ?_) (fun hp => ?_)) <;> try simp only [hp]) | simp -implicitDefEqProofs (disch := omega) only [go_sem, Nat.reduceAdd, Nat.reduceSub, reduceCtorEq, Nat.reduceLT, Nat.reduceLeDiff, Nat.reduceEqDiff, Nat.reduceMul, Int.reduceToNat, ↓reduceIte, List.take_of_length_le, evApp_n1, evApp_i0, evApp_i1, evApp_i2, evApp_i3, evApp_i4, evApp_i5, evApp_s0, evApp_s1, evApp_s2, evApp_s3, if_pos, if_neg, decide_eq_true, decide_eq_false, beq_t, beq_f, wrap_succ, wrap_in, getD_ints, getD_intss, getD_tsrs, fillA_len, fillA_at, fillA_full, evApp_z0, evApp_z1, evApp_z2, evApp_z3, evApp_i6, List.getElem?_set_self, List.set_set, Try.ntmps9, Try.results9, h1, u1, h2, h3, u3])
      refine LoopQ.mix (fun t0 L0 nn ss => ∃ (m : Nat) (k : Nat) (_ : Unit), (∃ x : Nat → AV, ss = ⟨mixL 0 (.k :: .k :: .k :: .k :: .k :: .k :: .k :: .k :: .k :: .k :: .v (.sl 2 k 0 k k) :: .v (.sl 3 k 0 k k) :: .v (i64 ((m : Nat) - 1)) :: .k :: .k :: .k :: .k :: .k :: .k :: .k :: .k :: .k :: .k :: .k :: .k :: .k :: .k :: .k :: .k :: .k :: .k :: .k :: .k :: .k :: .k :: .k :: .k :: .k :: .k :: .k :: .k :: .k :: .k :: .k :: .k :: .k :: .k :: .k :: .k :: .k :: .k :: .k :: .k :: .k :: .k :: .k :: .k :: .k :: .k :: .k :: .k :: .k :: .k :: .k :: .s :: .s :: .s :: .s :: .s :: .s :: .s :: .s :: .s :: .s :: .s :: .s :: .s :: .s :: .s :: .s :: .s :: .s :: .k :: .k :: .k :: .k :: .k :: .k :: .k :: .k :: .k :: .k :: .k :: .k :: .k :: []) t0 x, [⟨2, [.agg [ints 1 t.sh, ints 1 t.vl]]⟩, ⟨2, [.agg [ints 1 t.sh, ints 1 t.vl]]⟩, ⟨2, (xs.drop m).reverse.map fun x => .agg [ints 1 x.sh, ints 1 x.vl]⟩, ⟨1, (ls.drop m).reverse.map fun l => .ds 1 (l.map fun n => .int .i64 n)⟩]⟩) ∧ (m + k = xs.length) ∧ nn = m + 1) ?_ ?_
      · exact ⟨_, xs.length, 0, (), mixJ rfl (by rw [List.drop_of_length_le (Nat.le_refl _), List.drop_of_length_le (by omega)]; rfl), rfl, rfl⟩
      · rintro I0 hI0 mm ss ⟨m, k, _, ⟨y, rfl⟩, m1, rfl⟩
        match m, m1 with
        | 0, m1 =>
          have e0 : xs.drop 0 = xs := rfl
          have e1 : ls.drop 0 = ls := rfl
          have hk2 : xs.reverse.length = k := by rw [List.length_reverse]; omega
          have hk3 : ls.reverse.length = k := by rw [List.length_reverse]; omega
          rw [e0, e1]
          repeat' (first | with_reducible refine RegQ.intro (by kernel_rfl) ?_ | with_reducible refine DrawQ.nat (by kernel_rfl) ?_ | ((with_reducible refine condQ_dec (fun hp => ?_) (fun hp => ?_)) <;> try simp only [hp]) | with_reducible refine condQ_beq (fun hp => ?_) (fun hp => ?_) | ((with_reducible refine wantQ_dec (fun hp => ?_) (fun hp => ?_)) <;> try simp only [hp]) | with_reducible refine wantQ_beq (fun hp => ?_) (fun hp => ?_) | ((with_reducible refine condQ_split (fun hp => ?_) (fun hp => ?_)) <;> try simp only [hp]) | ((with_reducible refine wantQ_split (fun hp => ?_) (fun hp => ?_)) <;> try simp only [hp]) | simp -implicitDefEqProofs (disch := omega) only [go_sem, Nat.reduceAdd, Nat.reduceSub, reduceCtorEq, Nat.reduceLT, Nat.reduceLeDiff, Nat.reduceEqDiff, Nat.reduceMul, Int.reduceToNat, ↓reduceIte, List.take_of_length_le, evApp_n1, evApp_i0, evApp_i1, evApp_i2, evApp_i3, evApp_i4, evApp_i5, evApp_s0, evApp_s1, evApp_s2, evApp_s3, if_pos, if_neg, decide_eq_true, decide_eq_false, beq_t, beq_f, wrap_succ, wrap_in, getD_ints, getD_intss, getD_tsrs, fillA_len, fillA_at, fillA_full, evApp_z0, evApp_z1, evApp_z2, evApp_z3, evApp_i6, List.getElem?_set_self, List.set_set, Try.ntmps9, Try.results9, h1, u2, h3, u3, hk2, hk3])
        | m + 1, m1 =>
          have hmx : m < xs.length := by omega
          have hml : m < ls.length := by omega
          have e1 : (((m + 1 : Nat) : Int) - 1) = (m : Int) := by omega
          have hr1 := rev_drop1 ⟨[], []⟩ hmx
          have hr2 := rev_drop1 [] hml
          have hl2 : (xs.drop (m + 1)).reverse.length = k := by simp; omega
          have hl3' : (ls.drop (m + 1)).reverse.length = k := by simp; omega
          rw [e1]
          generalize (xs.drop (m + 1)).reverse = X at *
          generalize (ls.drop (m + 1)).reverse = Y at *
          have hA1 : ∀ (A B C : Blk) (by' : Nat) (u : Tsr), by' ≤ 1000 → evApp [A, B, ⟨2, X.map fun x => .agg [ints 1 x.sh, ints 1 x.vl]⟩, C] (.sl 2 k 0 k k) [.agg [ints 1 u.sh, ints 1 u.vl]] 2 by' = some (.sl 2 (k + 1) 0 (k + 1) (k + 1), [A, B, ⟨2, (X ++ [u]).map fun x => .agg [ints 1 x.sh, ints 1 x.vl]⟩, C]) := fun A B C by' u hb' => by
            have hbb : (k + 1) * by' ≤ (3 + 1) * 1000 := Nat.mul_le_mul (by omega) hb'
            rw [evApp_gen (q := X.map fun x => .agg [ints 1 x.sh, ints 1 x.vl]) rfl (by rw [List.length_map]; exact hl2) (by show (k + 1) * by' ≤ 140737488355328; omega) (by show k + 1 ≤ 9223372036854775807; omega), List.map_append]; rfl
          have hA2 : ∀ (A B C : Blk) (by' : Nat) (u : List Int), by' ≤ 1000 → evApp [A, B, C, ⟨1, Y.map fun l => .ds 1 (l.map fun n => .int .i64 n)⟩] (.sl 3 k 0 k k) [.ds 1 (u.map fun n => .int .i64 n)] 1 by' = some (.sl 3 (k + 1) 0 (k + 1) (k + 1), [A, B, C, ⟨1, (Y ++ [u]).map fun l => .ds 1 (l.map fun n => .int .i64 n)⟩]) := fun A B C by' u hb' => by
            have hbb : (k + 1) * by' ≤ (3 + 1) * 1000 := Nat.mul_le_mul (by omega) hb'
            rw [evApp_gen (q := Y.map fun l => .ds 1 (l.map fun n => .int .i64 n)) rfl (by rw [List.length_map]; exact hl3') (by show (k + 1) * by' ≤ 140737488355328; omega) (by show k + 1 ≤ 9223372036854775807; omega), List.map_append]; rfl
          have g3 := getD_ts hmx
          have g4 := getD_ls hml
          have hmi : (m : Int) < (xs.length : Int) := by omega
          have hmi2 : (m : Int) < (ls.length : Int) := by omega
          repeat' (first | with_reducible refine RegQ.intro (by kernel_rfl) ?_ | with_reducible refine DrawQ.nat (by kernel_rfl) ?_ | ((with_reducible refine condQ_dec (fun hp => ?_) (fun hp => ?_)) <;> try simp only [hp]) | with_reducible refine condQ_beq (fun hp => ?_) (fun hp => ?_) | ((with_reducible refine wantQ_dec (fun hp => ?_) (fun hp => ?_)) <;> try simp only [hp]) | with_reducible refine wantQ_beq (fun hp => ?_) (fun hp => ?_) | ((with_reducible refine condQ_split (fun hp => ?_) (fun hp => ?_)) <;> try simp only [hp]) | ((with_reducible refine wantQ_split (fun hp => ?_) (fun hp => ?_)) <;> try simp only [hp]) | simp -implicitDefEqProofs (disch := omega) only [go_sem, Nat.reduceAdd, Nat.reduceSub, reduceCtorEq, Nat.reduceLT, Nat.reduceLeDiff, Nat.reduceEqDiff, Nat.reduceMul, Int.reduceToNat, ↓reduceIte, List.take_of_length_le, evApp_n1, evApp_i0, evApp_i1, evApp_i2, evApp_i3, evApp_i4, evApp_i5, evApp_s0, evApp_s1, evApp_s2, evApp_s3, if_pos, if_neg, decide_eq_true, decide_eq_false, beq_t, beq_f, wrap_succ, wrap_in, getD_ints, getD_intss, getD_tsrs, fillA_len, fillA_at, fillA_full, evApp_z0, evApp_z1, evApp_z2, evApp_z3, evApp_i6, List.getElem?_set_self, List.set_set, Try.ntmps9, Try.results9, g3, g4, hmi, hmi2, hA1, hA2, hr1, hr2])
          exact ⟨m + 1, by omega, hI0 _ _ ⟨m, k + 1, (), mixI rfl, by omega, rfl⟩⟩
end Go.Proofs.Ytbibnkgcegbmiaa
