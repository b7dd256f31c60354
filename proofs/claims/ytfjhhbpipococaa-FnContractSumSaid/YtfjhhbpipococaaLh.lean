/- Contracts of functions that the laws of this seat call. -/
import Derived.Test.YtfjhhbpipococaaLg
import Derived.Test.YtfjhhbpipococaaEvC
set_option linter.all false
namespace Go.Proofs.Ytfjhhbpipococaa
open Go Go.Ev Go.RowKit Go.Ev.Enc Go.Pl

theorem isp_delete {b n i j : Nat} {q : List Int} {L : List Blk} (hL : L[b]? = some ⟨1, q.map fun n => .int .i64 n⟩) (hn : q.length = n) (hij : i ≤ j) (hj : j ≤ n) (hn0 : 0 < n) :
    ISpec Try.prog 67 [.sl b n 0 n n, .int .i64 i, .int .i64 j] L (fun r L' => r = .sl b n 0 (n - (j - i)) n ∧ L' = L.set b ⟨1, (q.take i ++ q.drop j ++ List.replicate (j - i) 0).map fun n => .int .i64 n⟩) :=
  ispec_delete (fun blk off cap i j d w h1 h2 h3 h4 h5 => by
    have := Try.slices_Delete_int blk off cap i j d.toList w (by simpa using h1) (by simpa using h2) h3 h4 (by simpa using h5)
    simpa using this) hL hn hij hj hn0
theorem can_delete : CanCall Try.prog 67 := ⟨_, Try.func67, rfl, rfl⟩
/-- the first one taken away -/
theorem isp_del0 {b n : Nat} {q : List Int} {L : List Blk} (hL : L[b]? = some ⟨1, q.map fun n => .int .i64 n⟩) (hn : q.length = n) (h0 : 0 < n) :
    ISpec Try.prog 67 [.sl b n 0 n n, .int .i64 0, .int .i64 1] L (fun r L' => r = .sl b n 0 (n - 1) n ∧ L' = L.set b ⟨1, (q.drop 1 ++ [0]).map fun n => .int .i64 n⟩) :=
  isp_delete (i := 0) (j := 1) hL hn (by omega) (by omega) (by omega)
set_option maxHeartbeats 4000000 in
set_option maxRecDepth 100000 in
theorem o_indexAt {Sg : FuncId → Option (List AV → Option AV)} (hS : Sound Try.prog Sg) (s : List Int) (k : Int) (h1 : s.length < 4294967296) (h2 : 0 ≤ k ∧ k ≤ 9223372036854775807) (h3 : ∀ i, i < s.length → 1 ≤ s.getD i 0) : OSpec Try.prog 65 [ints 0 s, i64 k] (fun n => .sl n s.length 0 s.length s.length) (fun _ => [⟨1, (unrF s k).map fun n => .int .i64 n⟩]) := by
  refine OSpec.intro Try.func65 rfl (vc3_sound Try.pf hS hS _ _ _ ?_)
  obtain ⟨h2, h2'⟩ := h2
  have hall : ∀ m, ∀ d ∈ s.reverse.take m, 1 ≤ d := fun m d hd => by
    have := List.mem_of_mem_take hd
    rw [List.mem_reverse] at this
    obtain ⟨i, hi, rfl⟩ := List.mem_iff_getElem.1 this
    have := h3 i hi
    simpa [hi] using this
  have hul := unrF_len s k
  repeat' (first | with_reducible refine RegQ.intro (by kernel_rfl) ?_ | with_reducible refine DrawQ.nat (by kernel_rfl) ?_ | ((with_reducible refine condQ_dec (fun hp => ?_) (fun hp => ?_)) <;> try simp only [hp]) | with_reducible refine condQ_beq (fun hp => ?_) (fun hp => ?_) | ((with_reducible refine wantQ_dec (fun hp => ?_) (fun hp => ?_)) <;> try simp only [hp]) | with_reducible refine wantQ_beq (fun hp => ?_) (fun hp => ?_) | ((with_reducible refine condQ_split (fun hp => ?_) (fun hp => ?_)) <;> try simp only [hp]) | ((with_reducible refine wantQ_split (fun hp => ?_) (fun hp => ?_)) <;> try simp only [hp]) | simp -implicitDefEqProofs (disch := omega) only [go_sem, Nat.reduceAdd, Nat.reduceSub, reduceCtorEq, Nat.reduceLT, Nat.reduceLeDiff, Nat.reduceEqDiff, Nat.reduceMul, Int.reduceToNat, ↓reduceIte, List.take_of_length_le, evApp_n1, evApp_i0, evApp_i1, evApp_i2, evApp_i3, evApp_i4, evApp_i5, evApp_s0, evApp_s1, evApp_s2, evApp_s3, if_pos, if_neg, decide_eq_true, decide_eq_false, beq_t, beq_f, wrap_succ, wrap_in, getD_ints, getD_intss, getD_tsrs, fillA_len, fillA_at, fillA_full, evApp_z0, evApp_z1, evApp_z2, evApp_z3, evApp_i6, List.getElem?_set_self, List.set_set, Try.ntmps65, Try.results65])
  refine LoopQ.mix (fun t0 L0 nn ss => ∃ (m : Nat) (c : Int) (_ : Unit), (∃ x : Nat → AV, ss = ⟨mixL 0 (.k :: .v (i64 c) :: .k :: .k :: .k :: .k :: .v (i64 ((m : Nat) - 1)) :: .k :: .k :: .k :: .k :: .k :: .k :: .s :: .s :: .s :: .s :: .s :: .s :: .s :: .s :: .s :: .s :: .s :: .s :: .s :: .s :: .s :: .s :: .s :: .s :: .s :: .k :: []) t0 x, [⟨1, (fromEnd (unrF s k) m).map fun n => .int .i64 n⟩]⟩) ∧ (m ≤ s.length) ∧ (c = divR (s.reverse.take (s.length - m)) k) ∧ nn = m + 1) ?_ ?_
  · exact ⟨_, ⟨s.length, k, (), mixJ rfl (by rw [fromEnd, List.drop_of_length_le (by omega), List.append_nil]), Nat.le_refl _, by rw [Nat.sub_self]; rfl, rfl⟩⟩
  · rintro I0 hI0 n ss ⟨m, c, _, ⟨x, rfl⟩, g1, g2, rfl⟩
    have hc := divR_nn (s.reverse.take (s.length - m)) k (hall _) h2
    rw [← g2] at hc
    match m, g1 with
    | 0, _ =>
      have h0 : fromEnd (unrF s k) 0 = unrF s k := by simp [fromEnd]
      rw [h0]
      repeat' (first | with_reducible refine RegQ.intro (by kernel_rfl) ?_ | with_reducible refine DrawQ.nat (by kernel_rfl) ?_ | ((with_reducible refine condQ_dec (fun hp => ?_) (fun hp => ?_)) <;> try simp only [hp]) | with_reducible refine condQ_beq (fun hp => ?_) (fun hp => ?_) | ((with_reducible refine wantQ_dec (fun hp => ?_) (fun hp => ?_)) <;> try simp only [hp]) | with_reducible refine wantQ_beq (fun hp => ?_) (fun hp => ?_) | ((with_reducible refine condQ_split (fun hp => ?_) (fun hp => ?_)) <;> try simp only [hp]) | ((with_reducible refine wantQ_split (fun hp => ?_) (fun hp => ?_)) <;> try simp only [hp]) | simp -implicitDefEqProofs (disch := omega) only [go_sem, Nat.reduceAdd, Nat.reduceSub, reduceCtorEq, Nat.reduceLT, Nat.reduceLeDiff, Nat.reduceEqDiff, Nat.reduceMul, Int.reduceToNat, ↓reduceIte, List.take_of_length_le, evApp_n1, evApp_i0, evApp_i1, evApp_i2, evApp_i3, evApp_i4, evApp_i5, evApp_s0, evApp_s1, evApp_s2, evApp_s3, if_pos, if_neg, decide_eq_true, decide_eq_false, beq_t, beq_f, wrap_succ, wrap_in, getD_ints, getD_intss, getD_tsrs, fillA_len, fillA_at, fillA_full, evApp_z0, evApp_z1, evApp_z2, evApp_z3, evApp_i6, List.getElem?_set_self, List.set_set, Try.ntmps65, Try.results65])
      exact ⟨[0], by simp, by simp, fun _ => rfl, fun _ => by simp only [List.map, List.getD_cons_zero, renB_ints]⟩
    | m + 1, hm =>
      have h4 := h3 m hm
      have ht := fromEnd_len (l := unrF s k) (m := m + 1) (by omega)
      have hs := fromEnd_set (l := unrF s k) (m := m) (by omega)
      have hv := unrF_at (k := k) hm
      rw [← g2] at hv
      rw [hv] at hs
      have hd : divR (s.reverse.take (s.length - m)) k = c.tdiv (s.getD m 0) := by rw [rev_drop hm, divR_app, ← g2]; rfl
      have h5 : 0 ≤ c.tdiv (s.getD m 0) := Int.tdiv_nonneg hc.1 (by omega)
      have h6 : c.tdiv (s.getD m 0) ≤ c := by rw [Int.tdiv_eq_ediv_of_nonneg hc.1]; exact Int.ediv_le_self _ hc.1
      have e1 : (((m + 1 : Nat) : Int) - 1) = (m : Int) := by omega
      rw [e1]
      have h7 : ¬ s.getD m 0 = 0 := by omega
      repeat' (first | with_reducible refine RegQ.intro (by kernel_rfl) ?_ | with_reducible refine DrawQ.nat (by kernel_rfl) ?_ | ((with_reducible refine condQ_dec (fun hp => ?_) (fun hp => ?_)) <;> try simp only [hp]) | with_reducible refine condQ_beq (fun hp => ?_) (fun hp => ?_) | ((with_reducible refine wantQ_dec (fun hp => ?_) (fun hp => ?_)) <;> try simp only [hp]) | with_reducible refine wantQ_beq (fun hp => ?_) (fun hp => ?_) | ((with_reducible refine condQ_split (fun hp => ?_) (fun hp => ?_)) <;> try simp only [hp]) | ((with_reducible refine wantQ_split (fun hp => ?_) (fun hp => ?_)) <;> try simp only [hp]) | simp -implicitDefEqProofs (disch := omega) only [go_sem, Nat.reduceAdd, Nat.reduceSub, reduceCtorEq, Nat.reduceLT, Nat.reduceLeDiff, Nat.reduceEqDiff, Nat.reduceMul, Int.reduceToNat, ↓reduceIte, List.take_of_length_le, evApp_n1, evApp_i0, evApp_i1, evApp_i2, evApp_i3, evApp_i4, evApp_i5, evApp_s0, evApp_s1, evApp_s2, evApp_s3, if_pos, if_neg, decide_eq_true, decide_eq_false, beq_t, beq_f, wrap_succ, wrap_in, getD_ints, getD_intss, getD_tsrs, fillA_len, fillA_at, fillA_full, evApp_z0, evApp_z1, evApp_z2, evApp_z3, evApp_i6, List.getElem?_set_self, List.set_set, Try.ntmps65, Try.results65, hs, ht, set_ints])
      exact ⟨m + 1, by omega, hI0 _ _ ⟨m, _, (), mixI rfl, by omega, hd.symm, rfl⟩⟩
theorem can_indexAt : CanCall Try.prog 65 := ⟨_, Try.func65, rfl, rfl⟩
theorem unrF_tail (d : Int) (s : List Int) (k : Int) : (unrF (d :: s) k).drop 1 = unrF s k := by
  unfold unrF
  rw [List.reverse_cons, unrR_app, List.reverse_append]
  rfl
def gSumDim (x : Tsr) (d : Int) : Option (Tsr × Bool) := gd (tsrOK x = true ∧ x.sh ≠ [] ∧ d = 0) (tsrT (sd0 x))
theorem gSumDim_eq {x : Tsr} (h : tsrOK x = true) (h2 : x.sh ≠ []) : gSumDim x 0 = some (tsrT (sd0 x)) := gd_eq ⟨h, h2, rfl⟩
theorem isShape_at {l : List Int} (h : l.length ≤ 1048576) : gIsShape l = some (shapeOK l) := gIsShape_eq (by omega)
theorem evApp_b2 {B0 B1 : Blk} {r : List Int} {by' : Nat} (h : r.length * by' ≤ 140737488355328) (h2 : r.length ≤ 9223372036854775807) :
    evApp [B0, B1, ⟨1, []⟩] (.sl 2 0 0 0 0) (r.map fun n => .int .i64 n) 1 by' = some (.sl 2 r.length 0 r.length r.length, [B0, B1, ⟨1, r.map fun n => .int .i64 n⟩]) := by
  have := evApp_gen (L := [B0, B1, ⟨1, []⟩]) (b := 2) (n := 0) (sz := 1) (by' := by') (q := []) (new := r.map fun n => AV.int .i64 n) rfl rfl (by simpa using h) (by simpa using h2)
  simpa using this
theorem expS_front (t : Nat) (L : List Blk) {n : Nat} {s : List Int} (h : s.length + 1 = n) (z : Int) (e : Nat) : expS t L n 0 (n - 1) (some ⟨e, (s ++ [z]).map fun n => .int .i64 n⟩) = ints t s := by
  subst h
  simp [expS, ints, expE, stepC, Function.comp_def]
set_option maxHeartbeats 4000000 in
set_option maxRecDepth 100000 in
theorem law_SumDim0 {Sg : FuncId → Option (List AV → Option AV)} (hS : Sound Try.prog Sg) (ht : Sg 62 = some (F1 gIsTensor)) (hs : Sg 68 = some (F1 gIsShape)) (hn : Sg 64 = some (F1 gCountOf)) (hr : Sg 66 = some (F2 gRankOf)) (n1 : Sg 65 = none) (n2 : Sg 67 = none) : ∀ a r, F2 gSumDim a = some r → CSpec Try.prog 39 a r := by
  refine F2_spec ?_
  intro w d r hr0
  obtain ⟨⟨h1, h2, rfl⟩, rfl⟩ := gd_some hr0
  refine CSpec.intro Try.func39 rfl (own _) (vc3_sound Try.pf hS hS _ _ _ ?_)
  have hq := tsrOK_dims h1
  have hv := tsr_vl60 h1
  have q1 := gIsTensor_eq (x := w) (by have := hq.1; omega) (by omega)
  rw [h1] at q1
  have hsl : w.sh.length ≤ 4 := hq.1
  have hs0 : 0 < w.sh.length := List.length_pos_iff.2 h2
  have hs1 : (w.sh.drop 1).length + 1 = w.sh.length := by rw [List.length_drop]; omega
  have i0 : (0 : Int) < (w.sh.length : Int) := by omega
  repeat' (first | with_reducible refine RegQ.intro (by kernel_rfl) ?_ | with_reducible refine DrawQ.nat (by kernel_rfl) ?_ | ((with_reducible refine condQ_dec (fun hp => ?_) (fun hp => ?_)) <;> try simp only [hp]) | with_reducible refine condQ_beq (fun hp => ?_) (fun hp => ?_) | ((with_reducible refine wantQ_dec (fun hp => ?_) (fun hp => ?_)) <;> try simp only [hp]) | with_reducible refine wantQ_beq (fun hp => ?_) (fun hp => ?_) | ((with_reducible refine condQ_split (fun hp => ?_) (fun hp => ?_)) <;> try simp only [hp]) | ((with_reducible refine wantQ_split (fun hp => ?_) (fun hp => ?_)) <;> try simp only [hp]) | simp -implicitDefEqProofs (disch := omega) only [go_sem, Nat.reduceAdd, Nat.reduceSub, reduceCtorEq, Nat.reduceLT, Nat.reduceLeDiff, Nat.reduceEqDiff, Nat.reduceMul, Int.reduceToNat, ↓reduceIte, List.take_of_length_le, evApp_n1, evApp_i0, evApp_i1, evApp_i2, evApp_i3, evApp_i4, evApp_i5, evApp_s0, evApp_s1, evApp_s2, evApp_s3, if_pos, if_neg, decide_eq_true, decide_eq_false, beq_t, beq_f, wrap_succ, wrap_in, getD_ints, getD_intss, getD_tsrs, fillA_len, fillA_at, fillA_full, evApp_z0, evApp_z1, evApp_z2, evApp_z3, evApp_i6, List.getElem?_set_self, List.set_set, Try.ntmps39, Try.results39, ht, q1, i0, n2, opQ_none])
  refine InlK_intro rfl rfl can_delete ((isp_del0 (q := w.sh) rfl rfl hs0).mono ?_)
  rintro r L1 ⟨rfl, rfl⟩
  have hsd : sd0 w = if shapeOK (w.sh.drop 1) = true then some ⟨w.sh.drop 1, sdV (prodW (w.sh.drop 1)).toNat w.vl w.vl.length⟩ else none := rfl
  have htl : ∀ k : Int, (unrF w.sh k).drop 1 = unrF (w.sh.drop 1) k := fun k => by
    match hh : w.sh, hs0 with
    | d :: s, _ => exact unrF_tail d s k
  have hprE : prE w.sh = w.sh.getD 0 0 * prE (w.sh.drop 1) := by
    match hh : w.sh, hs0 with
    | d :: s, _ => rfl
  have hin : inE (w.sh.drop 1) := fun x hx => hq.2 x (List.mem_of_mem_drop hx)
  have hwl := (tsr_facts h1).2.2
  have hpos : ∀ k : Nat, k < w.vl.length → ∀ d ∈ w.sh, 1 ≤ d := fun k hk => prE_pos hq.2 (by omega)
  generalize hS1 : w.sh.drop 1 = s at *
  have q2 := isShape_at (l := s) (by omega)
  cases hso : shapeOK s with
  | false =>
    rw [hsd, hso]
    rw [hso] at q2
    repeat' (first | with_reducible refine RegQ.intro (by kernel_rfl) ?_ | with_reducible refine DrawQ.nat (by kernel_rfl) ?_ | ((with_reducible refine condQ_dec (fun hp => ?_) (fun hp => ?_)) <;> try simp only [hp]) | with_reducible refine condQ_beq (fun hp => ?_) (fun hp => ?_) | ((with_reducible refine wantQ_dec (fun hp => ?_) (fun hp => ?_)) <;> try simp only [hp]) | with_reducible refine wantQ_beq (fun hp => ?_) (fun hp => ?_) | ((with_reducible refine condQ_split (fun hp => ?_) (fun hp => ?_)) <;> try simp only [hp]) | ((with_reducible refine wantQ_split (fun hp => ?_) (fun hp => ?_)) <;> try simp only [hp]) | simp -implicitDefEqProofs (disch := omega) only [go_sem, Nat.reduceAdd, Nat.reduceSub, reduceCtorEq, Nat.reduceLT, Nat.reduceLeDiff, Nat.reduceEqDiff, Nat.reduceMul, Int.reduceToNat, ↓reduceIte, List.take_of_length_le, evApp_n1, evApp_i0, evApp_i1, evApp_i2, evApp_i3, evApp_i4, evApp_i5, evApp_s0, evApp_s1, evApp_s2, evApp_s3, if_pos, if_neg, decide_eq_true, decide_eq_false, beq_t, beq_f, wrap_succ, wrap_in, getD_ints, getD_intss, getD_tsrs, fillA_len, fillA_at, fillA_full, evApp_z0, evApp_z1, evApp_z2, evApp_z3, evApp_i6, List.getElem?_set_self, List.set_set, Try.ntmps39, Try.results39, hs, expS_front, q2])
    rfl
  | true =>
    rw [if_pos hso] at hsd
    rw [hso] at q2
    have q3 := gCountOf_eq (l := s) (by omega)
    have hp1 : prodW s = prE s := prodW_eq hin (by omega)
    have hp2 := prE_nn hin
    have hp3 : prodW s ≤ 60 := by
      have := hso
      unfold shapeOK at this
      simp only [Bool.and_eq_true, decide_eq_true_eq] at this
      exact this.2
    obtain ⟨R, hR⟩ : ∃ R : Nat, prodW s = R := ⟨(prodW s).toNat, by omega⟩
    have hRt : (prodW s).toNat = R := by omega
    rw [hRt] at hsd
    rw [hR] at q3
    have hR60 : R ≤ 60 := by omega
    repeat' (first | with_reducible refine RegQ.intro (by kernel_rfl) ?_ | with_reducible refine DrawQ.nat (by kernel_rfl) ?_ | ((with_reducible refine condQ_dec (fun hp => ?_) (fun hp => ?_)) <;> try simp only [hp]) | with_reducible refine condQ_beq (fun hp => ?_) (fun hp => ?_) | ((with_reducible refine wantQ_dec (fun hp => ?_) (fun hp => ?_)) <;> try simp only [hp]) | with_reducible refine wantQ_beq (fun hp => ?_) (fun hp => ?_) | ((with_reducible refine condQ_split (fun hp => ?_) (fun hp => ?_)) <;> try simp only [hp]) | ((with_reducible refine wantQ_split (fun hp => ?_) (fun hp => ?_)) <;> try simp only [hp]) | simp -implicitDefEqProofs (disch := omega) only [go_sem, Nat.reduceAdd, Nat.reduceSub, reduceCtorEq, Nat.reduceLT, Nat.reduceLeDiff, Nat.reduceEqDiff, Nat.reduceMul, Int.reduceToNat, ↓reduceIte, List.take_of_length_le, evApp_n1, evApp_i0, evApp_i1, evApp_i2, evApp_i3, evApp_i4, evApp_i5, evApp_s0, evApp_s1, evApp_s2, evApp_s3, if_pos, if_neg, decide_eq_true, decide_eq_false, beq_t, beq_f, wrap_succ, wrap_in, getD_ints, getD_intss, getD_tsrs, fillA_len, fillA_at, fillA_full, evApp_z0, evApp_z1, evApp_z2, evApp_z3, evApp_i6, List.getElem?_set_self, List.set_set, Try.ntmps39, Try.results39, hs, expS_front, q2, hn, q3])
    refine LoopQ.mixG 5 (fun t0 L0 nn ss => ∃ (k : Nat) (V : List Int) (_ : Unit), (∃ x : Nat → AV, ss = ⟨mixL 0 (.k :: .k :: .k :: .k :: .k :: .k :: .k :: .s :: .s :: .s :: .k :: .k :: .k :: .k :: .k :: .k :: .k :: .k :: .k :: .k :: .k :: .k :: .k :: .k :: .k :: .k :: .k :: .k :: .k :: .k :: .k :: .k :: .k :: .k :: .k :: .k :: .k :: .k :: .k :: .k :: .k :: .k :: .k :: .k :: .k :: .k :: .k :: .v (i64 (k : Nat)) :: .s :: .s :: .s :: .s :: .s :: .s :: .s :: .s :: .s :: .s :: .s :: .s :: .s :: .s :: .s :: .s :: .s :: .s :: .s :: .s :: .s :: .s :: .s :: .s :: .k :: .k :: .k :: .k :: .k :: []) t0 x, [⟨2, [.agg [ints 0 w.sh, ints 0 w.vl]]⟩, ⟨2, [.agg [.nilS, .nilS]]⟩, ⟨1, (s ++ [0]).map fun n => .int .i64 n⟩, ⟨2, [.agg [.sl 2 w.sh.length 0 (w.sh.length - 1) w.sh.length, .sl 4 R 0 R R]]⟩, ⟨1, V.map fun n => .int .i64 n⟩]⟩) ∧ (k ≤ w.vl.length) ∧ (V = sdV R w.vl k) ∧ nn = w.vl.length - k) (by simp) ?_ ?_
    · exact ⟨_, ⟨0, List.replicate R 0, (), mixJ rfl (by simp), Nat.zero_le _, rfl, rfl⟩⟩
    · rintro I0 hI0 n ss ⟨k, V, _, ⟨y, rfl⟩, m1, m2, rfl⟩
      have hVl : V.length = R := by rw [m2, sdV_len]
      by_cases hk : k < w.vl.length
      · have hdp := hpos k hk
        have hdi : ∀ i, i < w.sh.length → 1 ≤ w.sh.getD i 0 := fun i hi => hdp _ (gmem hi)
        have hdp1 : ∀ d ∈ s, 1 ≤ d := fun d hd => hdp d (by rw [← hS1] at hd; exact List.mem_of_mem_drop hd)
        have hdi1 : ∀ i, i < s.length → 1 ≤ s.getD i 0 := fun i hi => hdp1 _ (gmem hi)
        have hR0 : 0 < R := by
          rcases Nat.eq_zero_or_pos R with h0 | h0
          · exfalso
            rw [← hp1, hR, h0] at hprE
            simp at hprE
            omega
          · exact h0
        have hidx := idx_ok (s := s) (i := unrF s (k : Int)) (by rw [unrF_len]) (fun d hd => unrF_bd hdi1 (by omega) hd)
        have hrk : rankOf s (unrF s (k : Int)) = ((k % R : Nat) : Int) := by
          rw [rankOf_eq hso hidx, rank_unr hin hdp1 (by omega) (by omega) _ (Nat.le_refl _), Nat.sub_self, List.take_length, ← hp1, hR]
          rfl
        have q4 := gRankOf_eq (s := s) (i := unrF s (k : Int)) (by omega) (by rw [unrF_len]; omega)
        rw [hrk] at q4
        have hkR : k % R < R := Nat.mod_lt _ hR0
        have hV : sdV R w.vl (k + 1) = V.set (k % R) (IntKind.i64.wrap (V.getD (k % R) 0 + w.vl.getD k 0)) := by
          rw [sdV, ← m2, addAt, Int.toNat_natCast]
        have hul := unrF_len w.sh (k : Int)
        generalize k % R = kr at *
        have hkr : (kr : Int) < (R : Int) := by omega
        repeat' (first | with_reducible refine RegQ.intro (by kernel_rfl) ?_ | with_reducible refine DrawQ.nat (by kernel_rfl) ?_ | ((with_reducible refine condQ_dec (fun hp => ?_) (fun hp => ?_)) <;> try simp only [hp]) | with_reducible refine condQ_beq (fun hp => ?_) (fun hp => ?_) | ((with_reducible refine wantQ_dec (fun hp => ?_) (fun hp => ?_)) <;> try simp only [hp]) | with_reducible refine wantQ_beq (fun hp => ?_) (fun hp => ?_) | ((with_reducible refine condQ_split (fun hp => ?_) (fun hp => ?_)) <;> try simp only [hp]) | ((with_reducible refine wantQ_split (fun hp => ?_) (fun hp => ?_)) <;> try simp only [hp]) | simp -implicitDefEqProofs (disch := omega) only [go_sem, Nat.reduceAdd, Nat.reduceSub, reduceCtorEq, Nat.reduceLT, Nat.reduceLeDiff, Nat.reduceEqDiff, Nat.reduceMul, Int.reduceToNat, ↓reduceIte, List.take_of_length_le, evApp_n1, evApp_i0, evApp_i1, evApp_i2, evApp_i3, evApp_i4, evApp_i5, evApp_s0, evApp_s1, evApp_s2, evApp_s3, if_pos, if_neg, decide_eq_true, decide_eq_false, beq_t, beq_f, wrap_succ, wrap_in, getD_ints, getD_intss, getD_tsrs, fillA_len, fillA_at, fillA_full, evApp_z0, evApp_z1, evApp_z2, evApp_z3, evApp_i6, List.getElem?_set_self, List.set_set, Try.ntmps39, Try.results39, n1, opQ_none])
        refine InlK_intro rfl rfl can_indexAt ((o_indexAt hS w.sh (k : Int) (by omega) ⟨by omega, by omega⟩ hdi).call (by simp only [go_sem, ints]) ?_)
        repeat' (first | with_reducible refine RegQ.intro (by kernel_rfl) ?_ | with_reducible refine DrawQ.nat (by kernel_rfl) ?_ | ((with_reducible refine condQ_dec (fun hp => ?_) (fun hp => ?_)) <;> try simp only [hp]) | with_reducible refine condQ_beq (fun hp => ?_) (fun hp => ?_) | ((with_reducible refine wantQ_dec (fun hp => ?_) (fun hp => ?_)) <;> try simp only [hp]) | with_reducible refine wantQ_beq (fun hp => ?_) (fun hp => ?_) | ((with_reducible refine condQ_split (fun hp => ?_) (fun hp => ?_)) <;> try simp only [hp]) | ((with_reducible refine wantQ_split (fun hp => ?_) (fun hp => ?_)) <;> try simp only [hp]) | simp -implicitDefEqProofs (disch := omega) only [go_sem, Nat.reduceAdd, Nat.reduceSub, reduceCtorEq, Nat.reduceLT, Nat.reduceLeDiff, Nat.reduceEqDiff, Nat.reduceMul, Int.reduceToNat, ↓reduceIte, List.take_of_length_le, evApp_n1, evApp_i0, evApp_i1, evApp_i2, evApp_i3, evApp_i4, evApp_i5, evApp_s0, evApp_s1, evApp_s2, evApp_s3, if_pos, if_neg, decide_eq_true, decide_eq_false, beq_t, beq_f, wrap_succ, wrap_in, getD_ints, getD_intss, getD_tsrs, fillA_len, fillA_at, fillA_full, evApp_z0, evApp_z1, evApp_z2, evApp_z3, evApp_i6, List.getElem?_set_self, List.set_set, Try.ntmps39, Try.results39, n2, opQ_none])
        refine InlK_intro rfl rfl can_delete ((isp_del0 (q := unrF w.sh (k : Int)) rfl hul hs0).mono ?_)
        rintro r L1 ⟨rfl, rfl⟩
        rw [htl]
        have hus : (unrF s (k : Int)).length + 1 = w.sh.length := by rw [unrF_len]; exact hs1
        repeat' (first | with_reducible refine RegQ.intro (by kernel_rfl) ?_ | with_reducible refine DrawQ.nat (by kernel_rfl) ?_ | ((with_reducible refine condQ_dec (fun hp => ?_) (fun hp => ?_)) <;> try simp only [hp]) | with_reducible refine condQ_beq (fun hp => ?_) (fun hp => ?_) | ((with_reducible refine wantQ_dec (fun hp => ?_) (fun hp => ?_)) <;> try simp only [hp]) | with_reducible refine wantQ_beq (fun hp => ?_) (fun hp => ?_) | ((with_reducible refine condQ_split (fun hp => ?_) (fun hp => ?_)) <;> try simp only [hp]) | ((with_reducible refine wantQ_split (fun hp => ?_) (fun hp => ?_)) <;> try simp only [hp]) | simp -implicitDefEqProofs (disch := omega) only [go_sem, Nat.reduceAdd, Nat.reduceSub, reduceCtorEq, Nat.reduceLT, Nat.reduceLeDiff, Nat.reduceEqDiff, Nat.reduceMul, Int.reduceToNat, ↓reduceIte, List.take_of_length_le, evApp_n1, evApp_i0, evApp_i1, evApp_i2, evApp_i3, evApp_i4, evApp_i5, evApp_s0, evApp_s1, evApp_s2, evApp_s3, if_pos, if_neg, decide_eq_true, decide_eq_false, beq_t, beq_f, wrap_succ, wrap_in, getD_ints, getD_intss, getD_tsrs, fillA_len, fillA_at, fillA_full, evApp_z0, evApp_z1, evApp_z2, evApp_z3, evApp_i6, List.getElem?_set_self, List.set_set, Try.ntmps39, Try.results39, hr, expS_front, q4, hkr, set_ints])
        exact ⟨w.vl.length - (k + 1), by omega, hI0 _ _ ⟨k + 1, V.set kr (IntKind.i64.wrap (V.getD kr 0 + w.vl.getD k 0)), (), mixI rfl, hk, hV.symm, rfl⟩⟩
      · obtain rfl : k = w.vl.length := by omega
        rw [hsd, ← m2]
        have q5 := gIsTensor_eq (x := ⟨s, V⟩) (by simp only; omega) (by simp only; omega)
        cases htk : tsrOK ⟨s, V⟩ with
        | true =>
          rw [htk] at q5
          repeat' (first | with_reducible refine RegQ.intro (by kernel_rfl) ?_ | with_reducible refine DrawQ.nat (by kernel_rfl) ?_ | ((with_reducible refine condQ_dec (fun hp => ?_) (fun hp => ?_)) <;> try simp only [hp]) | with_reducible refine condQ_beq (fun hp => ?_) (fun hp => ?_) | ((with_reducible refine wantQ_dec (fun hp => ?_) (fun hp => ?_)) <;> try simp only [hp]) | with_reducible refine wantQ_beq (fun hp => ?_) (fun hp => ?_) | ((with_reducible refine condQ_split (fun hp => ?_) (fun hp => ?_)) <;> try simp only [hp]) | ((with_reducible refine wantQ_split (fun hp => ?_) (fun hp => ?_)) <;> try simp only [hp]) | simp -implicitDefEqProofs (disch := omega) only [go_sem, Nat.reduceAdd, Nat.reduceSub, reduceCtorEq, Nat.reduceLT, Nat.reduceLeDiff, Nat.reduceEqDiff, Nat.reduceMul, Int.reduceToNat, ↓reduceIte, List.take_of_length_le, evApp_n1, evApp_i0, evApp_i1, evApp_i2, evApp_i3, evApp_i4, evApp_i5, evApp_s0, evApp_s1, evApp_s2, evApp_s3, if_pos, if_neg, decide_eq_true, decide_eq_false, beq_t, beq_f, wrap_succ, wrap_in, getD_ints, getD_intss, getD_tsrs, fillA_len, fillA_at, fillA_full, evApp_z0, evApp_z1, evApp_z2, evApp_z3, evApp_i6, List.getElem?_set_self, List.set_set, Try.ntmps39, Try.results39, ht, expS_front, q5, hVl])
          simp only [tsrT, htk, if_true]
        | false =>
          rw [htk] at q5
          repeat' (first | with_reducible refine RegQ.intro (by kernel_rfl) ?_ | with_reducible refine DrawQ.nat (by kernel_rfl) ?_ | ((with_reducible refine condQ_dec (fun hp => ?_) (fun hp => ?_)) <;> try simp only [hp]) | with_reducible refine condQ_beq (fun hp => ?_) (fun hp => ?_) | ((with_reducible refine wantQ_dec (fun hp => ?_) (fun hp => ?_)) <;> try simp only [hp]) | with_reducible refine wantQ_beq (fun hp => ?_) (fun hp => ?_) | ((with_reducible refine condQ_split (fun hp => ?_) (fun hp => ?_)) <;> try simp only [hp]) | ((with_reducible refine wantQ_split (fun hp => ?_) (fun hp => ?_)) <;> try simp only [hp]) | simp -implicitDefEqProofs (disch := omega) only [go_sem, Nat.reduceAdd, Nat.reduceSub, reduceCtorEq, Nat.reduceLT, Nat.reduceLeDiff, Nat.reduceEqDiff, Nat.reduceMul, Int.reduceToNat, ↓reduceIte, List.take_of_length_le, evApp_n1, evApp_i0, evApp_i1, evApp_i2, evApp_i3, evApp_i4, evApp_i5, evApp_s0, evApp_s1, evApp_s2, evApp_s3, if_pos, if_neg, decide_eq_true, decide_eq_false, beq_t, beq_f, wrap_succ, wrap_in, getD_ints, getD_intss, getD_tsrs, fillA_len, fillA_at, fillA_full, evApp_z0, evApp_z1, evApp_z2, evApp_z3, evApp_i6, List.getElem?_set_self, List.set_set, Try.ntmps39, Try.results39, ht, expS_front, q5, hVl])
          simp only [tsrT, htk]
          rfl
set_option maxHeartbeats 4000000 in
set_option maxRecDepth 100000 in
theorem spec_SumDim {Sg : FuncId → Option (List AV → Option AV)} (hS : Sound Try.prog Sg) (ht : Sg 62 = some (F1 gIsTensor)) (hs : Sg 68 = some (F1 gIsShape)) (hn : Sg 64 = some (F1 gCountOf)) (hr : Sg 66 = some (F2 gRankOf)) : ∀ a r, F2 gSumDim a = some r → CSpec Try.prog 39 a r := by
  exact law_SumDim0 ((hS.hide 65).hide 67) ((if_neg (by decide)).trans ((if_neg (by decide)).trans ht)) ((if_neg (by decide)).trans ((if_neg (by decide)).trans hs)) ((if_neg (by decide)).trans ((if_neg (by decide)).trans hn)) ((if_neg (by decide)).trans ((if_neg (by decide)).trans hr)) ((if_neg (by decide)).trans (if_pos rfl)) (if_pos rfl)
end Go.Proofs.Ytfjhhbpipococaa
