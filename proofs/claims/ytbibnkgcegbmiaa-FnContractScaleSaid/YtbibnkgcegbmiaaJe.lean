/- Contracts of functions that the laws of this seat call. -/
import Derived.Test.YtbibnkgcegbmiaaJd
set_option linter.all false
namespace Go.Proofs.Ytbibnkgcegbmiaa
open Go Go.Ev Go.RowKit Go.Ev.Enc Go.Pl

theorem ent_bd {x : Tsr} (h : tsrOK x = true) {k : Nat} (hk : k < x.vl.length) : -1000000 ≤ x.vl.getD k 0 ∧ x.vl.getD k 0 ≤ 1000000 := by
  unfold tsrOK at h
  simp only [Bool.and_eq_true, Bool.not_eq_true', List.any_eq_false] at h
  have := h.2 (x.vl.getD k 0) (by rw [List.getD_eq_getElem?_getD, List.getElem?_eq_getElem hk]; exact List.getElem_mem hk)
  simp only [notEnt, Bool.or_eq_true, decide_eq_true_eq] at this
  omega
/-- doubled up to i -/
def dblP (i : Nat) (l : List Int) : List Int := ((l.take i).map fun v => 2 * v) ++ l.drop i
theorem dblP_len (i : Nat) (l : List Int) : (dblP i l).length = l.length := by simp [dblP]; omega
theorem dblP_at {i : Nat} {l : List Int} (h : i < l.length) : (dblP i l).getD i 0 = l.getD i 0 := by
  unfold dblP
  rw [List.getD_eq_getElem?_getD, List.getElem?_append_right (by simp; omega), List.length_map, List.length_take, Nat.min_eq_left (by omega), Nat.sub_self]
  simp [h]
theorem dblP_set {i : Nat} {l : List Int} (h : i < l.length) : (dblP i l).set i (2 * l.getD i 0) = dblP (i + 1) l := by
  unfold dblP
  rw [List.set_append_right _ _ (by simp; omega), List.length_map, List.length_take, Nat.min_eq_left (by omega), Nat.sub_self, List.drop_eq_getElem_cons h, List.set_cons_zero, List.take_succ_eq_append_getElem h, List.map_append, List.append_assoc]
  simp [h]
theorem dblP_full (l : List Int) : dblP l.length l = l.map fun v => 2 * v := by simp [dblP]
theorem eS_dbl (L : List Blk) (x0 : Tsr) (xr : List Tsr) (n m : Nat) (hn : n = xr.length + 1) (v : List Int) (hm : m = v.length) (h3 : L[3]? = some ⟨1, v.map fun n => .int .i64 n⟩) :
    expS 0 L n 0 n (some ⟨2, .agg [ints 1 x0.sh, .sl 3 m 0 m m] :: xr.map fun x => .agg [ints 1 x.sh, ints 1 x.vl]⟩) = .ds 0 ((⟨x0.sh, v⟩ :: xr).map fun x => .agg [ints 0 x.sh, ints 0 x.vl]) := by
  subst hn hm
  simp [expS, expE, stepC, ints, h3, Function.comp_def, List.take_of_length_le]
theorem all_tsD (xs : List Tsr) : ((xs.map fun x => AV.agg [ints 1 x.sh, ints 1 x.vl]).all fun y => cellsOk y && decide (y.cells.length = 2)) = true := by
  rw [List.all_eq_true]
  intro y hy
  obtain ⟨x, _, rfl⟩ := List.mem_map.1 hy
  rfl
set_option maxHeartbeats 8000000 in
set_option maxRecDepth 100000 in
theorem law_Scale {Sg Sd : FuncId → Option (List AV → Option AV)} (hS : Sound Try.prog Sg) (hD : Sound Try.prog Sd) (n1 : Sg 40 = none) (h1 : Sg 41 = some (F3 gContr)) (h2 : Sg 42 = some (F3 gContr)) (h3 : Sg 37 = some (F2 gEqTsr)) (hDr : DrCo) : ∀ a r, F1 gTrueB a = some r → CSpec Try.prog 10 a r := by
  refine F1_spec ?_
  intro bs r hr
  obtain ⟨g1, rfl⟩ := gd_some hr
  refine law3 Try.func10 rfl Try.pf hS hD ?_
  by_cases hb : 1048576 < bs.length
  · repeat' (first | with_reducible refine RegQ.intro (by kernel_rfl) ?_ | with_reducible refine DrawQ.nat (by kernel_rfl) ?_ | ((with_reducible refine condQ_dec (fun hp => ?_) (fun hp => ?_)) <;> try simp only [hp]) | with_reducible refine condQ_beq (fun hp => ?_) (fun hp => ?_) | ((with_reducible refine wantQ_dec (fun hp => ?_) (fun hp => ?_)) <;> try simp only [hp]) | with_reducible refine wantQ_beq (fun hp => ?_) (fun hp => ?_) | ((with_reducible refine condQ_split (fun hp => ?_) (fun hp => ?_)) <;> try simp only [hp]) | ((with_reducible refine wantQ_split (fun hp => ?_) (fun hp => ?_)) <;> try simp only [hp]) | simp -implicitDefEqProofs (disch := omega) only [go_sem, Nat.reduceAdd, Nat.reduceSub, reduceCtorEq, Nat.reduceLT, Nat.reduceLeDiff, Nat.reduceEqDiff, Nat.reduceMul, Int.reduceToNat, ↓reduceIte, List.take_of_length_le, evApp_n1, evApp_i0, evApp_i1, evApp_i2, evApp_i3, evApp_i4, evApp_i5, evApp_s0, evApp_s1, evApp_s2, evApp_s3, if_pos, if_neg, decide_eq_true, decide_eq_false, beq_t, beq_f, wrap_succ, wrap_in, getD_ints, getD_intss, getD_tsrs, fillA_len, fillA_at, fillA_full, evApp_z0, evApp_z1, evApp_z2, evApp_z3, evApp_i6, List.getElem?_set_self, List.set_set, Try.ntmps10, Try.results10])
  · repeat' (first | with_reducible refine RegQ.intro (by kernel_rfl) ?_ | with_reducible refine DrawQ.nat (by kernel_rfl) ?_ | ((with_reducible refine condQ_dec (fun hp => ?_) (fun hp => ?_)) <;> try simp only [hp]) | with_reducible refine condQ_beq (fun hp => ?_) (fun hp => ?_) | ((with_reducible refine wantQ_dec (fun hp => ?_) (fun hp => ?_)) <;> try simp only [hp]) | with_reducible refine wantQ_beq (fun hp => ?_) (fun hp => ?_) | ((with_reducible refine condQ_split (fun hp => ?_) (fun hp => ?_)) <;> try simp only [hp]) | ((with_reducible refine wantQ_split (fun hp => ?_) (fun hp => ?_)) <;> try simp only [hp]) | simp -implicitDefEqProofs (disch := omega) only [go_sem, Nat.reduceAdd, Nat.reduceSub, reduceCtorEq, Nat.reduceLT, Nat.reduceLeDiff, Nat.reduceEqDiff, Nat.reduceMul, Int.reduceToNat, ↓reduceIte, List.take_of_length_le, evApp_n1, evApp_i0, evApp_i1, evApp_i2, evApp_i3, evApp_i4, evApp_i5, evApp_s0, evApp_s1, evApp_s2, evApp_s3, if_pos, if_neg, decide_eq_true, decide_eq_false, beq_t, beq_f, wrap_succ, wrap_in, getD_ints, getD_intss, getD_tsrs, fillA_len, fillA_at, fillA_full, evApp_z0, evApp_z1, evApp_z2, evApp_z3, evApp_i6, List.getElem?_set_self, List.set_set, Try.ntmps10, Try.results10, n1, opQ_none])
    refine InlK_intro rfl rfl can_DrawContract ((hDr bs (by omega) _).mono ?_)
    rintro r L1 ⟨xs, ls, out, hd, rfl, rfl⟩
    have u1 := gContr_eq hd.sz
    cases hT : tsrT ((extF xs ls).bind (contrF xs ls out)) with
    | mk t o =>
    rw [hT] at u1
    have bt := tsrT_lenJ hT (fun u hu => by
      simp only [Option.bind_eq_some_iff] at hu
      obtain ⟨e, _, hc⟩ := hu
      rw [contrF_shJ hc]
      have := hd.ob
      omega)
    have u3 : gEqTsr t t = some true := (gEqTsr_eq (a := t) (b := t) ⟨⟨by omega, by omega⟩, ⟨by omega, by omega⟩⟩).trans (by simp)
    cases o with
    | false => repeat' (first | with_reducible refine RegQ.intro (by kernel_rfl) ?_ | with_reducible refine DrawQ.nat (by kernel_rfl) ?_ | ((with_reducible refine condQ_dec (fun hp => ?_) (fun hp => ?_)) <;> try simp only [hp]) | with_reducible refine condQ_beq (fun hp => ?_) (fun hp => ?_) | ((with_reducible refine wantQ_dec (fun hp => ?_) (fun hp => ?_)) <;> try simp only [hp]) | with_reducible refine wantQ_beq (fun hp => ?_) (fun hp => ?_) | ((with_reducible refine condQ_split (fun hp => ?_) (fun hp => ?_)) <;> try simp only [hp]) | ((with_reducible refine wantQ_split (fun hp => ?_) (fun hp => ?_)) <;> try simp only [hp]) | simp -implicitDefEqProofs (disch := omega) only [go_sem, Nat.reduceAdd, Nat.reduceSub, reduceCtorEq, Nat.reduceLT, Nat.reduceLeDiff, Nat.reduceEqDiff, Nat.reduceMul, Int.reduceToNat, ↓reduceIte, List.take_of_length_le, evApp_n1, evApp_i0, evApp_i1, evApp_i2, evApp_i3, evApp_i4, evApp_i5, evApp_s0, evApp_s1, evApp_s2, evApp_s3, if_pos, if_neg, decide_eq_true, decide_eq_false, beq_t, beq_f, wrap_succ, wrap_in, getD_ints, getD_intss, getD_tsrs, fillA_len, fillA_at, fillA_full, evApp_z0, evApp_z1, evApp_z2, evApp_z3, evApp_i6, List.getElem?_set_self, List.set_set, Try.ntmps10, Try.results10, h1, u1, h2, h3, u3])
    | true =>
      have hl3 := hd.l3
      have hll := hd.ll
      obtain ⟨hx, hk⟩ := tsrT_ok hT
      have hx0 := hx
      simp only [Option.bind_eq_some_iff] at hx0
      obtain ⟨e, hE, _⟩ := hx0
      have hEx := extOK_of hE
      obtain ⟨x0, xr, hxs⟩ : ∃ x0 xr, xs = x0 :: xr := by
        cases xs with
        | nil => have := hd.l1; simp at this
        | cons x0 xr => exact ⟨x0, xr, rfl⟩
      have hok0 := hEx.tsr 0 (by rw [hxs]; simp)
      rw [hxs] at hok0
      simp only [List.getD_cons_zero] at hok0
      obtain ⟨b1, b2⟩ := hd.xb x0 (by rw [hxs]; simp)
      have hxl : xs.length = xr.length + 1 := by rw [hxs]; rfl
      have hxr : xr.length ≤ 2 := by omega
      have hd2 : DrC (⟨x0.sh, x0.vl.map fun v => 2 * v⟩ :: xr) ls out := ⟨by simp, by simp; omega, by simp; omega, fun x hx => by
        rcases List.mem_cons.1 hx with rfl | hx
        · exact ⟨b1, by simp; exact b2⟩
        · exact hd.xb x (by rw [hxs]; simp [hx]), hd.lb, hd.ob⟩
      have u2 := gContr_eq hd2.sz
      have hx2 : (extF (⟨x0.sh, x0.vl.map fun v => 2 * v⟩ :: xr) ls).bind (contrF (⟨x0.sh, x0.vl.map fun v => 2 * v⟩ :: xr) ls out) = (extF (dbl1 xs) ls).bind (contrF (dbl1 xs) ls out) := by rw [hxs]; rfl
      rw [hx2] at u2
      cases hT2 : tsrT ((extF (dbl1 xs) ls).bind (contrF (dbl1 xs) ls out)) with
      | mk t2 o2 =>
      rw [hT2] at u2
      have hpos : (0 : Int) < (xs.length : Int) := by omega
      have hpos2 : (0 : Int) < ((xr.length + 1 : Nat) : Int) := by omega
      have f0 : (xs.map fun x => AV.agg [ints 1 x.sh, ints 1 x.vl]).getD 0 .any = .agg [ints 1 x0.sh, ints 1 x0.vl] := by rw [hxs]; rfl
      have fs : ∀ v : AV, (xs.map fun x => AV.agg [ints 1 x.sh, ints 1 x.vl]).set 0 v = v :: xr.map fun x => .agg [ints 1 x.sh, ints 1 x.vl] := fun v => by rw [hxs]; rfl
      have hA0 : ∀ (A B : Blk) (by' : Nat), by' ≤ 1000 → evApp [A, B, ⟨2, []⟩] (.sl 2 0 0 0 0) (xs.map fun x => .agg [ints 1 x.sh, ints 1 x.vl]) 2 by' = some (.sl 2 xs.length 0 xs.length xs.length, [A, B, ⟨2, xs.map fun x => .agg [ints 1 x.sh, ints 1 x.vl]⟩]) := fun A B by' hb' => by
        have hbb : xs.length * by' ≤ 3 * 1000 := Nat.mul_le_mul (by omega) hb'
        have := evApp_gen (L := [A, B, ⟨2, []⟩]) (b := 2) (n := 0) (sz := 2) (by' := by') (q := []) (new := xs.map fun x => .agg [ints 1 x.sh, ints 1 x.vl]) rfl rfl (by rw [List.length_map, Nat.zero_add]; omega) (by rw [List.length_map, Nat.zero_add]; omega)
        rw [this, List.length_map, Nat.zero_add]; rfl
      repeat' (first | with_reducible refine RegQ.intro (by kernel_rfl) ?_ | ((with_reducible refine condQ_dec (fun hp => ?_) (fun hp => ?_)) <;> try simp only [hp]) | with_reducible refine condQ_beq (fun hp => ?_) (fun hp => ?_) | ((with_reducible refine wantQ_dec (fun hp => ?_) (fun hp => ?_)) <;> try simp only [hp]) | with_reducible refine wantQ_beq (fun hp => ?_) (fun hp => ?_) | ((with_reducible refine condQ_split (fun hp => ?_) (fun hp => ?_)) <;> try simp only [hp]) | ((with_reducible refine wantQ_split (fun hp => ?_) (fun hp => ?_)) <;> try simp only [hp]) | simp -implicitDefEqProofs (disch := omega) only [go_sem, Nat.reduceAdd, Nat.reduceSub, reduceCtorEq, Nat.reduceLT, Nat.reduceLeDiff, Nat.reduceEqDiff, Nat.reduceMul, Int.reduceToNat, ↓reduceIte, List.take_of_length_le, evApp_n1, evApp_i0, evApp_i1, evApp_i2, evApp_i3, evApp_i4, evApp_i5, evApp_s0, evApp_s1, evApp_s2, evApp_s3, if_pos, if_neg, decide_eq_true, decide_eq_false, beq_t, beq_f, wrap_succ, wrap_in, getD_ints, getD_intss, getD_tsrs, fillA_len, fillA_at, fillA_full, evApp_z0, evApp_z1, evApp_z2, evApp_z3, evApp_i6, List.getElem?_set_self, List.set_set, Try.ntmps10, Try.results10, h1, u1, h2, h3, u3, hA0, all_tsD])
      refine DrawQ.any [([0, 1, 2, 3, 4, 6, 7, 8, 9, 5], 10)] [11, 12, 13] [0, 1, 2, 3, 4] (by kernel_rfl) ?_
      repeat' (first | with_reducible refine RegQ.intro (by kernel_rfl) ?_ | ((with_reducible refine condQ_dec (fun hp => ?_) (fun hp => ?_)) <;> try simp only [hp]) | with_reducible refine condQ_beq (fun hp => ?_) (fun hp => ?_) | ((with_reducible refine wantQ_dec (fun hp => ?_) (fun hp => ?_)) <;> try simp only [hp]) | with_reducible refine wantQ_beq (fun hp => ?_) (fun hp => ?_) | ((with_reducible refine condQ_split (fun hp => ?_) (fun hp => ?_)) <;> try simp only [hp]) | ((with_reducible refine wantQ_split (fun hp => ?_) (fun hp => ?_)) <;> try simp only [hp]) | simp -implicitDefEqProofs (disch := omega) only [go_sem, Nat.reduceAdd, Nat.reduceSub, reduceCtorEq, Nat.reduceLT, Nat.reduceLeDiff, Nat.reduceEqDiff, Nat.reduceMul, Int.reduceToNat, ↓reduceIte, List.take_of_length_le, evApp_n1, evApp_i0, evApp_i1, evApp_i2, evApp_i3, evApp_i4, evApp_i5, evApp_s0, evApp_s1, evApp_s2, evApp_s3, if_pos, if_neg, decide_eq_true, decide_eq_false, beq_t, beq_f, wrap_succ, wrap_in, getD_ints, getD_intss, getD_tsrs, fillA_len, fillA_at, fillA_full, evApp_z0, evApp_z1, evApp_z2, evApp_z3, evApp_i6, List.getElem?_set_self, List.set_set, Try.ntmps10, Try.results10, hpos, f0, fs])
      have hxl' : xr.length + 1 = xs.length := hxl.symm
      obtain ⟨X2, hX2⟩ : ∃ X2 : List Tsr, X2 = ⟨x0.sh, x0.vl.map fun v => 2 * v⟩ :: xr := ⟨_, rfl⟩
      rw [← hX2] at u2
      have hE2 : expS 0 [⟨2, [.agg [ints 1 t.sh, ints 1 t.vl]]⟩, ⟨2, [.agg [ints 1 t.sh, ints 1 t.vl]]⟩, ⟨2, .agg [ints 1 x0.sh, .sl 3 x0.vl.length 0 x0.vl.length x0.vl.length] :: xr.map fun x => .agg [ints 1 x.sh, ints 1 x.vl]⟩, ⟨1, (x0.vl.map fun v => 2 * v).map fun n => .int .i64 n⟩] xs.length 0 xs.length (some ⟨2, .agg [ints 1 x0.sh, .sl 3 x0.vl.length 0 x0.vl.length x0.vl.length] :: xr.map fun x => .agg [ints 1 x.sh, ints 1 x.vl]⟩) = .ds 0 (X2.map fun x => .agg [ints 0 x.sh, ints 0 x.vl]) := by
        rw [hX2]
        exact eS_dbl _ x0 xr xs.length x0.vl.length hxl (x0.vl.map fun v => 2 * v) (by simp) rfl
      have hbt := tsr_vl60 hk
      have hcmp : (∀ i, i < t2.vl.length → t2.vl.getD i 0 = 2 * t.vl.getD i 0 ∧ i < t.vl.length) ∧ (o2 = true → t2.vl.length = t.vl.length) ∧ t2.vl.length ≤ 100 := by
        cases o2 with
        | false =>
          have : t2 = ⟨[], []⟩ := by
            unfold tsrT at hT2
            split at hT2
            · simp only [Prod.mk.injEq] at hT2; exact hT2.1.symm
            · split at hT2
              · simp at hT2
              · simp only [Prod.mk.injEq] at hT2; exact hT2.1.symm
          subst this
          exact ⟨fun i hi => by simp at hi, fun h => by simp at h, by simp⟩
        | true =>
          obtain ⟨c1, c2⟩ := contr_scale hx (tsrT_ok hT2).1
          refine ⟨fun i hi => ?_, fun _ => c1, by omega⟩
          have hi' : i < t.vl.length := by omega
          have := ent_bd hk hi'
          exact ⟨by rw [c2 i hi', wrap_in (by omega)], hi'⟩
      obtain ⟨hc1, hc2, hc3⟩ := hcmp
      refine LoopQ.mix (fun t0 L0 nn ss => ∃ (i : Nat) (_ : Unit), (∃ x : Nat → AV, ss = ⟨mixL 0 (.k :: .k :: .k :: .k :: .k :: .k :: .k :: .k :: .k :: .k :: .k :: .v (i64 (i : Nat)) :: .k :: .k :: .k :: .k :: .k :: .k :: .k :: .k :: .k :: .k :: .k :: .k :: .k :: .k :: .k :: .k :: .k :: .k :: .k :: .k :: .k :: .k :: .k :: .k :: .k :: .k :: .k :: .k :: .k :: .k :: .k :: .k :: .k :: .k :: .k :: .k :: .k :: .k :: .k :: .k :: .k :: .k :: .k :: .k :: .k :: .k :: .k :: .k :: .k :: .k :: .k :: .k :: .k :: .k :: .k :: .k :: .k :: .k :: .k :: .k :: .k :: .k :: .k :: .s :: .s :: .s :: .s :: .s :: .s :: .s :: .s :: .s :: .s :: .s :: .s :: .s :: .s :: .s :: .s :: .s :: .s :: .s :: .s :: .s :: .s :: .s :: .k :: .k :: .k :: .k :: .k :: .k :: .k :: .k :: .k :: .k :: .k :: .k :: .k :: .k :: .k :: .k :: .k :: .k :: .k :: .k :: .k :: .k :: .k :: .k :: .k :: .k :: .k :: .k :: .k :: .k :: .k :: .k :: .k :: .k :: .k :: .k :: .k :: []) t0 x, [⟨2, [.agg [ints 1 t.sh, ints 1 t.vl]]⟩, ⟨2, [.agg [ints 1 t.sh, ints 1 t.vl]]⟩, ⟨2, .agg [ints 1 x0.sh, .sl 3 x0.vl.length 0 x0.vl.length x0.vl.length] :: xr.map fun x => .agg [ints 1 x.sh, ints 1 x.vl]⟩, ⟨1, (dblP i x0.vl).map fun n => .int .i64 n⟩]⟩) ∧ (i ≤ x0.vl.length) ∧ nn = x0.vl.length - i) ?_ ?_
      · exact ⟨_, ⟨0, (), mixJ rfl (rfl), Nat.zero_le _, rfl⟩⟩
      · rintro I0 hI0 mm ss ⟨i, _, ⟨y, rfl⟩, m1, rfl⟩
        have hdl := dblP_len i x0.vl
        by_cases hi : i < x0.vl.length
        · have hdi : i < (dblP i x0.vl).length := by rw [hdl]; exact hi
          have g2 := getD_ints hdi
          rw [dblP_at hi] at g2
          have hst := dblP_set hi
          have hbd := ent_bd hok0 hi
          have hw : IntKind.i64.wrap (2 * x0.vl.getD i 0) = 2 * x0.vl.getD i 0 := wrap_in (by omega)
          have hii : (i : Int) < (x0.vl.length : Int) := by omega
          repeat' (first | with_reducible refine RegQ.intro (by kernel_rfl) ?_ | with_reducible refine DrawQ.nat (by kernel_rfl) ?_ | ((with_reducible refine condQ_dec (fun hp => ?_) (fun hp => ?_)) <;> try simp only [hp]) | with_reducible refine condQ_beq (fun hp => ?_) (fun hp => ?_) | ((with_reducible refine wantQ_dec (fun hp => ?_) (fun hp => ?_)) <;> try simp only [hp]) | with_reducible refine wantQ_beq (fun hp => ?_) (fun hp => ?_) | ((with_reducible refine condQ_split (fun hp => ?_) (fun hp => ?_)) <;> try simp only [hp]) | ((with_reducible refine wantQ_split (fun hp => ?_) (fun hp => ?_)) <;> try simp only [hp]) | simp -implicitDefEqProofs (disch := omega) only [go_sem, Nat.reduceAdd, Nat.reduceSub, reduceCtorEq, Nat.reduceLT, Nat.reduceLeDiff, Nat.reduceEqDiff, Nat.reduceMul, Int.reduceToNat, ↓reduceIte, List.take_of_length_le, evApp_n1, evApp_i0, evApp_i1, evApp_i2, evApp_i3, evApp_i4, evApp_i5, evApp_s0, evApp_s1, evApp_s2, evApp_s3, if_pos, if_neg, decide_eq_true, decide_eq_false, beq_t, beq_f, wrap_succ, wrap_in, getD_ints, getD_intss, getD_tsrs, fillA_len, fillA_at, fillA_full, evApp_z0, evApp_z1, evApp_z2, evApp_z3, evApp_i6, List.getElem?_set_self, List.set_set, Try.ntmps10, Try.results10, hpos, hxl', hdl, hii, g2, hw, hst])
          exact ⟨x0.vl.length - (i + 1), by omega, hI0 _ _ ⟨i + 1, (), mixI rfl, hi, rfl⟩⟩
        · obtain rfl : i = x0.vl.length := by omega
          rw [dblP_full]
          repeat' (first | with_reducible refine RegQ.intro (by kernel_rfl) ?_ | with_reducible refine DrawQ.nat (by kernel_rfl) ?_ | ((with_reducible refine condQ_dec (fun hp => ?_) (fun hp => ?_)) <;> try simp only [hp]) | with_reducible refine condQ_beq (fun hp => ?_) (fun hp => ?_) | ((with_reducible refine wantQ_dec (fun hp => ?_) (fun hp => ?_)) <;> try simp only [hp]) | with_reducible refine wantQ_beq (fun hp => ?_) (fun hp => ?_) | ((with_reducible refine condQ_split (fun hp => ?_) (fun hp => ?_)) <;> try simp only [hp]) | ((with_reducible refine wantQ_split (fun hp => ?_) (fun hp => ?_)) <;> try simp only [hp]) | simp -implicitDefEqProofs (disch := omega) only [go_sem, Nat.reduceAdd, Nat.reduceSub, reduceCtorEq, Nat.reduceLT, Nat.reduceLeDiff, Nat.reduceEqDiff, Nat.reduceMul, Int.reduceToNat, ↓reduceIte, List.take_of_length_le, evApp_n1, evApp_i0, evApp_i1, evApp_i2, evApp_i3, evApp_i4, evApp_i5, evApp_s0, evApp_s1, evApp_s2, evApp_s3, if_pos, if_neg, decide_eq_true, decide_eq_false, beq_t, beq_f, wrap_succ, wrap_in, getD_ints, getD_intss, getD_tsrs, fillA_len, fillA_at, fillA_full, evApp_z0, evApp_z1, evApp_z2, evApp_z3, evApp_i6, List.getElem?_set_self, List.set_set, Try.ntmps10, Try.results10, hpos, hxl', hE2, h1, u2])
          refine LoopQ.mix (fun t0 L0 nn ss => ∃ (q : Nat) (_ : Unit), (∃ x : Nat → AV, ss = ⟨mixL 0 (.k :: .k :: .s :: .k :: .k :: .k :: .k :: .k :: .k :: .k :: .k :: .k :: .k :: .k :: .v (i64 (q : Nat)) :: .k :: .k :: .k :: .k :: .k :: .k :: .k :: .k :: .k :: .k :: .k :: .k :: .k :: .k :: .k :: .k :: .k :: .k :: .k :: .k :: .k :: .k :: .k :: .k :: .k :: .k :: .k :: .k :: .k :: .k :: .k :: .k :: .k :: .k :: .k :: .k :: .k :: .k :: .k :: .k :: .k :: .k :: .k :: .k :: .k :: .k :: .k :: .k :: .k :: .k :: .k :: .k :: .k :: .k :: .k :: .k :: .k :: .k :: .k :: .k :: .k :: .k :: .k :: .k :: .k :: .k :: .k :: .k :: .k :: .k :: .k :: .k :: .k :: .k :: .k :: .k :: .k :: .k :: .k :: .k :: .k :: .k :: .k :: .k :: .k :: .k :: .k :: .k :: .k :: .k :: .s :: .s :: .s :: .s :: .s :: .s :: .s :: .s :: .s :: .s :: .s :: .s :: .s :: .s :: .s :: .s :: .s :: .s :: .s :: .k :: .k :: .k :: .k :: .k :: .k :: .k :: .k :: .k :: .k :: .k :: []) t0 x, L0⟩) ∧ (q ≤ t2.vl.length) ∧ nn = t2.vl.length - q) ?_ ?_
          · exact ⟨_, ⟨0, (), mixI rfl, Nat.zero_le _, rfl⟩⟩
          · rintro I1 hI1 mm ss ⟨q, _, ⟨y2, rfl⟩, n1', rfl⟩
            by_cases hq : q < t2.vl.length
            · obtain ⟨k1, k2⟩ := hc1 q hq
              have g3 := getD_ints hq
              have g4 := getD_ints k2
              have hbd := ent_bd hk k2
              have hw : IntKind.i64.wrap (2 * t.vl.getD q 0) = 2 * t.vl.getD q 0 := wrap_in (by omega)
              have hqq : (q : Int) < (t2.vl.length : Int) := by omega
              have hqt : (q : Int) < (t.vl.length : Int) := by omega
              rw [k1] at g3
              repeat' (first | with_reducible refine RegQ.intro (by kernel_rfl) ?_ | with_reducible refine DrawQ.nat (by kernel_rfl) ?_ | ((with_reducible refine condQ_dec (fun hp => ?_) (fun hp => ?_)) <;> try simp only [hp]) | with_reducible refine condQ_beq (fun hp => ?_) (fun hp => ?_) | ((with_reducible refine wantQ_dec (fun hp => ?_) (fun hp => ?_)) <;> try simp only [hp]) | with_reducible refine wantQ_beq (fun hp => ?_) (fun hp => ?_) | ((with_reducible refine condQ_split (fun hp => ?_) (fun hp => ?_)) <;> try simp only [hp]) | ((with_reducible refine wantQ_split (fun hp => ?_) (fun hp => ?_)) <;> try simp only [hp]) | simp -implicitDefEqProofs (disch := omega) only [go_sem, Nat.reduceAdd, Nat.reduceSub, reduceCtorEq, Nat.reduceLT, Nat.reduceLeDiff, Nat.reduceEqDiff, Nat.reduceMul, Int.reduceToNat, ↓reduceIte, List.take_of_length_le, evApp_n1, evApp_i0, evApp_i1, evApp_i2, evApp_i3, evApp_i4, evApp_i5, evApp_s0, evApp_s1, evApp_s2, evApp_s3, if_pos, if_neg, decide_eq_true, decide_eq_false, beq_t, beq_f, wrap_succ, wrap_in, getD_ints, getD_intss, getD_tsrs, fillA_len, fillA_at, fillA_full, evApp_z0, evApp_z1, evApp_z2, evApp_z3, evApp_i6, List.getElem?_set_self, List.set_set, Try.ntmps10, Try.results10, hqq, hqt, g3, g4, hw])
              exact ⟨t2.vl.length - (q + 1), by omega, hI1 _ _ ⟨q + 1, (), mixI rfl, hq, rfl⟩⟩
            · obtain rfl : q = t2.vl.length := by omega
              cases o2 with
              | false =>
                repeat' (first | with_reducible refine RegQ.intro (by kernel_rfl) ?_ | with_reducible refine DrawQ.nat (by kernel_rfl) ?_ | ((with_reducible refine condQ_dec (fun hp => ?_) (fun hp => ?_)) <;> try simp only [hp]) | with_reducible refine condQ_beq (fun hp => ?_) (fun hp => ?_) | ((with_reducible refine wantQ_dec (fun hp => ?_) (fun hp => ?_)) <;> try simp only [hp]) | with_reducible refine wantQ_beq (fun hp => ?_) (fun hp => ?_) | ((with_reducible refine condQ_split (fun hp => ?_) (fun hp => ?_)) <;> try simp only [hp]) | ((with_reducible refine wantQ_split (fun hp => ?_) (fun hp => ?_)) <;> try simp only [hp]) | simp -implicitDefEqProofs (disch := omega) only [go_sem, Nat.reduceAdd, Nat.reduceSub, reduceCtorEq, Nat.reduceLT, Nat.reduceLeDiff, Nat.reduceEqDiff, Nat.reduceMul, Int.reduceToNat, ↓reduceIte, List.take_of_length_le, evApp_n1, evApp_i0, evApp_i1, evApp_i2, evApp_i3, evApp_i4, evApp_i5, evApp_s0, evApp_s1, evApp_s2, evApp_s3, if_pos, if_neg, decide_eq_true, decide_eq_false, beq_t, beq_f, wrap_succ, wrap_in, getD_ints, getD_intss, getD_tsrs, fillA_len, fillA_at, fillA_full, evApp_z0, evApp_z1, evApp_z2, evApp_z3, evApp_i6, List.getElem?_set_self, List.set_set, Try.ntmps10, Try.results10])
              | true =>
                have hlen := hc2 rfl
                repeat' (first | with_reducible refine RegQ.intro (by kernel_rfl) ?_ | with_reducible refine DrawQ.nat (by kernel_rfl) ?_ | ((with_reducible refine condQ_dec (fun hp => ?_) (fun hp => ?_)) <;> try simp only [hp]) | with_reducible refine condQ_beq (fun hp => ?_) (fun hp => ?_) | ((with_reducible refine wantQ_dec (fun hp => ?_) (fun hp => ?_)) <;> try simp only [hp]) | with_reducible refine wantQ_beq (fun hp => ?_) (fun hp => ?_) | ((with_reducible refine condQ_split (fun hp => ?_) (fun hp => ?_)) <;> try simp only [hp]) | ((with_reducible refine wantQ_split (fun hp => ?_) (fun hp => ?_)) <;> try simp only [hp]) | simp -implicitDefEqProofs (disch := omega) only [go_sem, Nat.reduceAdd, Nat.reduceSub, reduceCtorEq, Nat.reduceLT, Nat.reduceLeDiff, Nat.reduceEqDiff, Nat.reduceMul, Int.reduceToNat, ↓reduceIte, List.take_of_length_le, evApp_n1, evApp_i0, evApp_i1, evApp_i2, evApp_i3, evApp_i4, evApp_i5, evApp_s0, evApp_s1, evApp_s2, evApp_s3, if_pos, if_neg, decide_eq_true, decide_eq_false, beq_t, beq_f, wrap_succ, wrap_in, getD_ints, getD_intss, getD_tsrs, fillA_len, fillA_at, fillA_full, evApp_z0, evApp_z1, evApp_z2, evApp_z3, evApp_i6, List.getElem?_set_self, List.set_set, Try.ntmps10, Try.results10, hlen])
end Go.Proofs.Ytbibnkgcegbmiaa
