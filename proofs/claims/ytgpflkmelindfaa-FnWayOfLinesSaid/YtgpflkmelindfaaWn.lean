/- Contracts of functions that the laws of this seat call. -/
import Derived.Test.YtgpflkmelindfaaWm
set_option linter.all false
namespace Go.Proofs.Ytgpflkmelindfaa
open Go Go.Ev Go.RowKit Go.Ev.Enc Go.Pl

theorem gcV_tup (n : Nat) (L : List Blk) (l : List AV) : gcV n L (.tup l) = .tup (l.map (expE (gcC n L))) := rfl
theorem xE_int (n : Nat) (L : List Blk) (k : IntKind) (m : Int) : expE (gcC n L) (.int k m) = .int k m := rfl
theorem xE_bool (n : Nat) (L : List Blk) (b : Bool) : expE (gcC n L) (.bool b) = .bool b := rfl
theorem xE_agg (n : Nat) (L : List Blk) (l : List AV) : expE (gcC n L) (.agg l) = .agg (l.map (gcC n L)) := rfl
theorem gcC_ints' (n : Nat) (L : List Blk) (t : Nat) (l : List Int) : gcC n L (ints t l) = ints t l := by
  simp [gcC, gcStep, expE, ints, Function.comp_def]
attribute [go_sem] gcV_tup xE_int xE_bool xE_agg gcC_ints'
set_option maxHeartbeats 4000000 in
set_option maxRecDepth 100000 in
theorem o_ixAt {Sg : FuncId → Option (List AV → Option AV)} (hS : Sound Try.prog Sg) (s : List Int) (k : Int) (h1 : s.length < 4294967296) (h2 : 0 ≤ k ∧ k ≤ 9223372036854775807) (h3 : ∀ i, i < s.length → 1 ≤ s.getD i 0) : OSpec Try.prog 98 [ints 0 s, i64 k] (fun n => .sl n s.length 0 s.length s.length) (fun _ => [⟨1, (unrF s k).map fun n => .int .i64 n⟩]) := by
  refine OSpec.intro Try.func98 rfl (vc3_sound Try.pf hS hS _ _ _ ?_)
  obtain ⟨h2, h2'⟩ := h2
  have hall : ∀ m, ∀ d ∈ s.reverse.take m, 1 ≤ d := fun m d hd => by
    have := List.mem_of_mem_take hd
    rw [List.mem_reverse] at this
    obtain ⟨i, hi, rfl⟩ := List.mem_iff_getElem.1 this
    have := h3 i hi
    simpa [hi] using this
  have hul := unrF_len s k
  repeat' (first | with_reducible first | refine kI (by kernel_rfl) ?_ | refine kN (by kernel_rfl) ?_ | (first | refine kB1 ?_ ?_ | refine kB2 ?_ ?_) <;> intro hp | (first | refine kD1 ?_ ?_ | refine kD2 ?_ ?_ | refine kS1 ?_ ?_ | refine kS2 ?_ ?_) <;> intro hp <;> try simp only [hp] | simp -implicitDefEqProofs (disch := omega) only [go_sem, Nat.reduceAdd, Nat.reduceSub, reduceCtorEq, Nat.reduceLT, Nat.reduceLeDiff, Nat.reduceEqDiff, Nat.reduceMul, Int.reduceToNat, ↓reduceIte, List.take_of_length_le, if_pos, if_neg, List.getElem?_set_self, List.set_set, cnE, cnV, Try.ntmps98, Try.results98])
  refine LoopQ.mix (fun t0 L0 nn ss => ∃ (m : Nat) (c : Int) (_ : Unit), (∃ x : Nat → AV, ss = ⟨mixL 0 (.k :: .v (i64 c) :: .k :: .k :: .k :: .k :: .v (i64 ((m : Nat) - 1)) :: .k :: .k :: .k :: .k :: .k :: .k :: .s :: .s :: .s :: .s :: .s :: .s :: .s :: .s :: .s :: .s :: .s :: .s :: .s :: .s :: .s :: .s :: .s :: .s :: .s :: .k :: []) t0 x, [⟨1, (fromEnd (unrF s k) m).map fun n => .int .i64 n⟩]⟩) ∧ (m ≤ s.length) ∧ (c = divR (s.reverse.take (s.length - m)) k) ∧ nn = m + 1) ?_ ?_
  · exact ⟨_, ⟨s.length, k, (), mixJ rfl (by rw [fromEnd, List.drop_of_length_le (by omega), List.append_nil]), Nat.le_refl _, by rw [Nat.sub_self]; rfl, rfl⟩⟩
  · rintro I0 hI0 n ss ⟨m, c, _, ⟨x, rfl⟩, g1, g2, rfl⟩
    have hc := divR_nn (s.reverse.take (s.length - m)) k (hall _) h2
    rw [← g2] at hc
    match m, g1 with
    | 0, _ =>
      have h0 : fromEnd (unrF s k) 0 = unrF s k := by simp [fromEnd]
      rw [h0]
      repeat' (first | with_reducible first | refine kI (by kernel_rfl) ?_ | refine kN (by kernel_rfl) ?_ | (first | refine kB1 ?_ ?_ | refine kB2 ?_ ?_) <;> intro hp | (first | refine kD1 ?_ ?_ | refine kD2 ?_ ?_ | refine kS1 ?_ ?_ | refine kS2 ?_ ?_) <;> intro hp <;> try simp only [hp] | simp -implicitDefEqProofs (disch := omega) only [go_sem, Nat.reduceAdd, Nat.reduceSub, reduceCtorEq, Nat.reduceLT, Nat.reduceLeDiff, Nat.reduceEqDiff, Nat.reduceMul, Int.reduceToNat, ↓reduceIte, List.take_of_length_le, if_pos, if_neg, List.getElem?_set_self, List.set_set, cnE, cnV, Try.ntmps98, Try.results98])
      exact ⟨[0], by simp, by simp, fun _ => rfl, fun _ => by simp only [List.map, List.getD_cons_zero, renB_ints]⟩
    | m + 1, hm =>
      have h4 := h3 m hm
      have ht := fromEnd_len (l := unrF s k) (m := m + 1) (by omega)
      have hs := fromEnd_set (l := unrF s k) (m := m) (by omega)
      have hv := unrF_at (k := k) hm
      rw [← g2] at hv
      rw [hv] at hs
      have hd : divR (s.reverse.take (s.length - m)) k = c.tdiv (s.getD m 0) := by rw [rev_drop hm, divR_app, ← g2]; rfl
      have h5 : 0 ≤ c.tdiv (s.getD m 0) := Int.tdiv_nonneg hc.1 (by omega)
      have h6 : c.tdiv (s.getD m 0) ≤ c := by rw [Int.tdiv_eq_ediv_of_nonneg hc.1]; exact Int.ediv_le_self _ hc.1
      have e1 : (((m + 1 : Nat) : Int) - 1) = (m : Int) := by omega
      rw [e1]
      have h7 : ¬ s.getD m 0 = 0 := by omega
      repeat' (first | with_reducible first | refine kI (by kernel_rfl) ?_ | refine kN (by kernel_rfl) ?_ | (first | refine kB1 ?_ ?_ | refine kB2 ?_ ?_) <;> intro hp | (first | refine kD1 ?_ ?_ | refine kD2 ?_ ?_ | refine kS1 ?_ ?_ | refine kS2 ?_ ?_) <;> intro hp <;> try simp only [hp] | simp -implicitDefEqProofs (disch := omega) only [go_sem, Nat.reduceAdd, Nat.reduceSub, reduceCtorEq, Nat.reduceLT, Nat.reduceLeDiff, Nat.reduceEqDiff, Nat.reduceMul, Int.reduceToNat, ↓reduceIte, List.take_of_length_le, if_pos, if_neg, List.getElem?_set_self, List.set_set, cnE, cnV, Try.ntmps98, Try.results98,  hs, ht, set_ints])
      exact ⟨m + 1, by omega, hI0 _ _ ⟨m, _, (), mixI rfl, by omega, hd.symm, rfl⟩⟩
theorem can_ixAt : CanCall Try.prog 98 := ⟨_, Try.func98, rfl, rfl⟩
theorem can_IndexAt : CanCall Try.prog 44 := ⟨_, Try.func44, rfl, rfl⟩
def IxAt : Prop := ∀ (s : List Int) (k : Nat), shapeOK s = true → k < (prodW s).toNat → OSpec Try.prog 44 [ints 0 s, i64 (k : Nat)] (fun n => .sl n s.length 0 s.length s.length) (fun _ => [⟨1, (unrF s (k : Int)).map fun n => .int .i64 n⟩])
set_option maxHeartbeats 4000000 in
set_option maxRecDepth 100000 in
theorem o_IndexAt {Sg : FuncId → Option (List AV → Option AV)} (hS : Sound Try.prog Sg) (hs : Sg 96 = some (F1 gIsShape)) (hc : Sg 97 = some (F1 gCountOf)) (n1 : Sg 98 = none) (s : List Int) (k : Nat) (h1 : shapeOK s = true) (h2 : k < (prodW s).toNat) : OSpec Try.prog 44 [ints 0 s, i64 (k : Nat)] (fun n => .sl n s.length 0 s.length s.length) (fun _ => [⟨1, (unrF s (k : Int)).map fun n => .int .i64 n⟩]) := by
  refine OSpec.intro Try.func44 rfl (vc3_sound Try.pf hS hS _ _ _ ?_)
  obtain ⟨s1, s2, s3, s4, s5⟩ := shape_facts h1
  have q1 := gIsShape_eq (l := s) (by omega)
  rw [h1] at q1
  have q2 := gCountOf_eq (l := s) (by omega)
  have hk0 : ¬ (k : Int) < 0 := by omega
  have hk1 : ¬ prodW s ≤ (k : Int) := by omega
  repeat' (first | with_reducible first | refine kI (by kernel_rfl) ?_ | refine kN (by kernel_rfl) ?_ | (first | refine kB1 ?_ ?_ | refine kB2 ?_ ?_) <;> intro hp | (first | refine kD1 ?_ ?_ | refine kD2 ?_ ?_ | refine kS1 ?_ ?_ | refine kS2 ?_ ?_) <;> intro hp <;> try simp only [hp] | simp -implicitDefEqProofs (disch := omega) only [go_sem, Nat.reduceAdd, Nat.reduceSub, reduceCtorEq, Nat.reduceLT, Nat.reduceLeDiff, Nat.reduceEqDiff, Nat.reduceMul, Int.reduceToNat, ↓reduceIte, List.take_of_length_le, if_pos, if_neg, List.getElem?_set_self, List.set_set, cnE, cnV, Try.ntmps44, Try.results44,  hs, q1, hc, q2, hk0, hk1, n1, opQ_none])
  refine InlK_intro rfl rfl can_ixAt ((o_ixAt hS s (k : Int) (by omega) ⟨by omega, by omega⟩ (shape_pos h1 h2)).call (by simp only [go_sem, ints]) ?_)
  repeat' (first | with_reducible first | refine kI (by kernel_rfl) ?_ | refine kN (by kernel_rfl) ?_ | (first | refine kB1 ?_ ?_ | refine kB2 ?_ ?_) <;> intro hp | (first | refine kD1 ?_ ?_ | refine kD2 ?_ ?_ | refine kS1 ?_ ?_ | refine kS2 ?_ ?_) <;> intro hp <;> try simp only [hp] | simp -implicitDefEqProofs (disch := omega) only [go_sem, Nat.reduceAdd, Nat.reduceSub, reduceCtorEq, Nat.reduceLT, Nat.reduceLeDiff, Nat.reduceEqDiff, Nat.reduceMul, Int.reduceToNat, ↓reduceIte, List.take_of_length_le, if_pos, if_neg, List.getElem?_set_self, List.set_set, cnE, cnV, Try.ntmps44, Try.results44])
  exact ⟨[0], by simp, by simp, fun _ => rfl, fun _ => by simp only [List.map, List.getD_cons_zero, renB_ints]⟩
def offR (v : Vi) (x : List Int) : Int × Bool := if viewOK v = true ∧ idxOK v.sh x = true then (offW v x x.length, true) else (0, false)
def gOffAt (v : Vi) (x : List Int) : Option (Int × Bool) := gd (viB v ∧ x.length < 4294967296) (offR v x)
theorem gOffAt_eq {v : Vi} {x : List Int} (h : viB v ∧ x.length < 4294967296) : gOffAt v x = some (offR v x) := gd_eq h
set_option maxHeartbeats 4000000 in
set_option maxRecDepth 100000 in
theorem spec_OffsetAt {Sg : FuncId → Option (List AV → Option AV)} (hS : Sound Try.prog Sg) (hv : Sg 51 = some (F1 gValidV)) (hi : Sg 99 = some (F2 gIsIndex)) (ho : Sg 100 = some (F2 gOffset)) : ∀ a r, F2 gOffAt a = some r → CSpec Try.prog 45 a r := by
  refine F2_spec ?_
  intro v x r hr0
  obtain ⟨⟨h1, h2⟩, rfl⟩ := gd_some hr0
  refine CSpec.intro Try.func45 rfl (own _) (vc3_sound Try.pf hS hS _ _ _ ?_)
  have q1 := gValidV_eq h1
  have q2 := gIsIndex_eq (s := v.sh) (i := x) h1.1 h2
  unfold offR
  cases e1 : viewOK v with
  | false =>
    rw [e1] at q1
    rw [if_neg (by simp)]
    repeat' (first | with_reducible first | refine kI (by kernel_rfl) ?_ | refine kN (by kernel_rfl) ?_ | (first | refine kB1 ?_ ?_ | refine kB2 ?_ ?_) <;> intro hp | (first | refine kD1 ?_ ?_ | refine kD2 ?_ ?_ | refine kS1 ?_ ?_ | refine kS2 ?_ ?_) <;> intro hp <;> try simp only [hp] | simp -implicitDefEqProofs (disch := omega) only [go_sem, Nat.reduceAdd, Nat.reduceSub, reduceCtorEq, Nat.reduceLT, Nat.reduceLeDiff, Nat.reduceEqDiff, Nat.reduceMul, Int.reduceToNat, ↓reduceIte, List.take_of_length_le, if_pos, if_neg, List.getElem?_set_self, List.set_set, cnE, cnV, Try.ntmps45, Try.results45,  hv, q1])
    try rfl
  | true =>
    rw [e1] at q1
    cases e2 : idxOK v.sh x with
    | false =>
      rw [e2] at q2
      rw [if_neg (by simp)]
      repeat' (first | with_reducible first | refine kI (by kernel_rfl) ?_ | refine kN (by kernel_rfl) ?_ | (first | refine kB1 ?_ ?_ | refine kB2 ?_ ?_) <;> intro hp | (first | refine kD1 ?_ ?_ | refine kD2 ?_ ?_ | refine kS1 ?_ ?_ | refine kS2 ?_ ?_) <;> intro hp <;> try simp only [hp] | simp -implicitDefEqProofs (disch := omega) only [go_sem, Nat.reduceAdd, Nat.reduceSub, reduceCtorEq, Nat.reduceLT, Nat.reduceLeDiff, Nat.reduceEqDiff, Nat.reduceMul, Int.reduceToNat, ↓reduceIte, List.take_of_length_le, if_pos, if_neg, List.getElem?_set_self, List.set_set, cnE, cnV, Try.ntmps45, Try.results45,  hv, q1, hi, q2])
      try rfl
    | true =>
      rw [e2] at q2
      rw [if_pos ⟨rfl, rfl⟩]
      have hx : x.length = v.sh.length := by
        unfold idxOK at e2
        simp only [Bool.and_eq_true, decide_eq_true_eq] at e2
        exact e2.1
      have q3 := gOffset_eq (v := v) (x := x) ⟨by rw [(vOK e1).2]; omega, h1.2⟩
      repeat' (first | with_reducible first | refine kI (by kernel_rfl) ?_ | refine kN (by kernel_rfl) ?_ | (first | refine kB1 ?_ ?_ | refine kB2 ?_ ?_) <;> intro hp | (first | refine kD1 ?_ ?_ | refine kD2 ?_ ?_ | refine kS1 ?_ ?_ | refine kS2 ?_ ?_) <;> intro hp <;> try simp only [hp] | simp -implicitDefEqProofs (disch := omega) only [go_sem, Nat.reduceAdd, Nat.reduceSub, reduceCtorEq, Nat.reduceLT, Nat.reduceLeDiff, Nat.reduceEqDiff, Nat.reduceMul, Int.reduceToNat, ↓reduceIte, List.take_of_length_le, if_pos, if_neg, List.getElem?_set_self, List.set_set, cnE, cnV, Try.ntmps45, Try.results45,  hv, q1, hi, q2, ho, q3])
      try rfl
theorem off_ix {v : Vi} {x : List Int} (h : viewOK v = true) (hx : vIx v.sh x) : gOffAt v x = some (offP v x v.sh.length, true) := by
  have hl := (shape_facts (vOK h).1).1
  have hi : idxOK v.sh x = true := idxOK_true hx.1 fun i hi => hx.2 i (by rw [← hx.1]; exact hi)
  rw [gOffAt_eq ⟨ok_viB h, by rw [hx.1]; omega⟩]
  unfold offR
  rw [if_pos ⟨h, hi⟩, hx.1, offW_ix h hx]
def DrSli (f : FuncId) : Prop := ∀ (bs : List UInt8), bs.length ≤ 1048576 → ∀ L : List Blk, ISpec Try.prog f [bytesA 0 bs] L fun r L' => ∃ (v : Vi) (d : Int) (s : Sl), viOK v ∧ r = .tup [viD v, i64 d, slA s] ∧ L' = L
theorem can_DrawSliceDim : CanCall Try.prog 39 := ⟨_, Try.func39, rfl, rfl⟩
set_option maxHeartbeats 8000000 in
set_option maxRecDepth 100000 in
theorem law_SliceDim {Sg Sd : FuncId → Option (List AV → Option AV)} (hS : Sound Try.prog Sg) (hD : Sound Try.prog Sd) (n1 : Sg 39 = none) (n2 : Sg 41 = none) (n3 : Sg 44 = none) (h1 : Sg 40 = some (F3 gSliT)) (h2 : Sg 12 = some (F2 gEqV)) (h3 : Sd 42 = some (F2 gIndT)) (h4 : Sg 43 = some (F1 gCountT)) (h5 : Sg 45 = some (F2 gOffAt)) (h6 : Sg 46 = some (F2 gCov)) (hDr : DrSli 39) (hsl : SliV) (hix : IxAt) : ∀ a r, F1 gTrueW a = some r → CSpec Try.prog 8 a r := by
  refine F1_spec ?_
  intro bs r hr
  obtain ⟨g1, rfl⟩ := gd_some hr
  refine law3 Try.func8 rfl Try.pf hS hD ?_
  by_cases hb : 1048576 < bs.length
  · repeat' (first | with_reducible first | refine kI (by kernel_rfl) ?_ | refine kN (by kernel_rfl) ?_ | (first | refine kB1 ?_ ?_ | refine kB2 ?_ ?_) <;> intro hp | (first | refine kD1 ?_ ?_ | refine kD2 ?_ ?_ | refine kS1 ?_ ?_ | refine kS2 ?_ ?_) <;> intro hp <;> try simp only [hp] | simp -implicitDefEqProofs (disch := omega) only [go_sem, Nat.reduceAdd, Nat.reduceSub, reduceCtorEq, Nat.reduceLT, Nat.reduceLeDiff, Nat.reduceEqDiff, Nat.reduceMul, Int.reduceToNat, ↓reduceIte, List.take_of_length_le, if_pos, if_neg, List.getElem?_set_self, List.set_set, cnE, cnV, Try.ntmps8, Try.results8])
  · repeat' (first | with_reducible first | refine kI (by kernel_rfl) ?_ | refine kN (by kernel_rfl) ?_ | (first | refine kB1 ?_ ?_ | refine kB2 ?_ ?_) <;> intro hp | (first | refine kD1 ?_ ?_ | refine kD2 ?_ ?_ | refine kS1 ?_ ?_ | refine kS2 ?_ ?_) <;> intro hp <;> try simp only [hp] | simp -implicitDefEqProofs (disch := omega) only [go_sem, Nat.reduceAdd, Nat.reduceSub, reduceCtorEq, Nat.reduceLT, Nat.reduceLeDiff, Nat.reduceEqDiff, Nat.reduceMul, Int.reduceToNat, ↓reduceIte, List.take_of_length_le, if_pos, if_neg, List.getElem?_set_self, List.set_set, cnE, cnV, Try.ntmps8, Try.results8,  n1, opQ_none])
    refine InlK_intro rfl rfl can_DrawSliceDim ((hDr bs (by omega) _).mono ?_)
    rintro r L1 ⟨v, d, s, ⟨k1, k2⟩, rfl, rfl⟩
    have hvb : viB v := ⟨by omega, by omega⟩
    have q1 := gSliT_eq hvb d s
    have hss := sli_some (v := v) (d := d) (s := s)
    by_cases hc : viewOK v = true ∧ inR d 0 (v.sh.length - 1) = true ∧ slOK s = true
    · have e3 : sliR v d s = (slcF v d.toNat (indF (v.sh.getD d.toNat 0) s), true) := by unfold sliR; rw [if_pos hc]
      obtain ⟨e1, e2, e4⟩ := hc
      rw [e3] at q1 hss
      obtain ⟨m, rfl, hm⟩ := dim_nat e2
      rw [Int.toNat_natCast] at q1 hss
      have hn := dim_at e1 hm
      have hn60 := (shape_facts (vOK e1).1).2.1 _ (gmem hm)
      have hrng := ind_rng (n := v.sh.getD m 0) (s := s) hn.1
      have hlen := ind_len (n := v.sh.getD m 0) hn.1 (slOK_s e4)
      have hap := ind_ap (v.sh.getD m 0) s
      have q5 := gIndT_eq (v.sh.getD m 0) s
      rw [if_pos ⟨by unfold inR; simp only [Bool.and_eq_true, decide_eq_true_eq]; omega, e4⟩] at q5
      generalize indF (v.sh.getD m 0) s = I at *
      have o1 := slc_ok e1 hm hrng hlen hap
      have s1 := slc_sh v m I
      have c1 := fun x hx hz => slc_cell (x := x) e1 hm hap hx hz
      have v1 := fun x hx => slc_vix (x := x) hm hrng hx
      have m1 := fun y hy => slc_mem (y := y) e1 hm hrng hlen hap hy
      generalize slcF v m I = w at *
      simp only [← s1] at c1 v1
      have hwb := ok_viB o1
      have hw4 := (shape_facts (vOK o1).1).1
      have hw5 := (vOK o1).2
      have q2 : gEqV w w = some true := (gEqV_eq ⟨hwb, hwb⟩).trans (by simp)
      have q6 := gCountT_eq (l := w.sh) (by omega)
      rw [(vOK o1).1, if_pos rfl] at q6
      have q7 : gCov v w = some true := (gCov_eq ⟨hvb, hwb⟩).trans (by
        rw [okk_iff.2 ⟨e1, o1⟩, Bool.true_and, List.all_eq_true.2 fun y hy => List.contains_iff_mem.2 (m1 y hy)])
      have hwl : w.sh.length = v.sh.length := by rw [s1, List.length_set]
      have hmw : m < w.sh.length := by omega
      have hwm : w.sh.getD m 0 = (I.length : Int) := by rw [s1, getD_set_eq hm]
      have q8 : ((w.sh.getD m 0) == (I.length : Int)) = true := beq_t hwm
      repeat' (first | with_reducible first | refine kI (by kernel_rfl) ?_ | refine kN (by kernel_rfl) ?_ | (first | refine kB1 ?_ ?_ | refine kB2 ?_ ?_) <;> intro hp | (first | refine kD1 ?_ ?_ | refine kD2 ?_ ?_ | refine kS1 ?_ ?_ | refine kS2 ?_ ?_) <;> intro hp <;> try simp only [hp] | simp -implicitDefEqProofs (disch := omega) only [go_sem, Nat.reduceAdd, Nat.reduceSub, reduceCtorEq, Nat.reduceLT, Nat.reduceLeDiff, Nat.reduceEqDiff, Nat.reduceMul, Int.reduceToNat, ↓reduceIte, List.take_of_length_le, if_pos, if_neg, List.getElem?_set_self, List.set_set, cnE, cnV, Try.ntmps8, Try.results8,  h1, q1, n2, opQ_none])
      refine InlK_intro rfl rfl can_SliceDim ((hsl v (m : Int) s ⟨k1, k2⟩).call (by simp only [go_sem, ints]) ?_)
      rw [hss, if_pos rfl]
      simp only [mdR, mdN]
      have hpw := (shape_facts (vOK o1).1).2.2.2
      obtain ⟨N, hN⟩ : ∃ N : Nat, prodW w.sh = N := ⟨(prodW w.sh).toNat, by omega⟩
      rw [hN] at q6
      have hN60 : N ≤ 60 := by omega
      repeat' (first | with_reducible first | refine kI (by kernel_rfl) ?_ | refine kN (by kernel_rfl) ?_ | (first | refine kB1 ?_ ?_ | refine kB2 ?_ ?_) <;> intro hp | (first | refine kD1 ?_ ?_ | refine kD2 ?_ ?_ | refine kS1 ?_ ?_ | refine kS2 ?_ ?_) <;> intro hp <;> try simp only [hp] | simp -implicitDefEqProofs (disch := omega) only [go_sem, Nat.reduceAdd, Nat.reduceSub, reduceCtorEq, Nat.reduceLT, Nat.reduceLeDiff, Nat.reduceEqDiff, Nat.reduceMul, Int.reduceToNat, ↓reduceIte, List.take_of_length_le, if_pos, if_neg, List.getElem?_set_self, List.set_set, cnE, cnV, Try.ntmps8, Try.results8,  h2, q2, h3, q5])
      refine LoopQ.mixG 6 (fun t0 L0 nn ss => ∃ (k : Nat) (_ : Unit), (∃ x : Nat → AV, ss = ⟨mixL 0 (.k :: .k :: .s :: .k :: .k :: .k :: .k :: .k :: .k :: .k :: .k :: .v (i64 (k : Nat)) :: .s :: .s :: .s :: .s :: .s :: .k :: .k :: .k :: .k :: .k :: .k :: .k :: .k :: .k :: .k :: .k :: .k :: .k :: .k :: .k :: .k :: .k :: .k :: .k :: .k :: .k :: .k :: .k :: .k :: .k :: .k :: .k :: .k :: .k :: .k :: .k :: .k :: .k :: .k :: .k :: .k :: .k :: .k :: .k :: .k :: .k :: .k :: .k :: .k :: .k :: .k :: .k :: .s :: .k :: .k :: .k :: .s :: .s :: .s :: .s :: .s :: .s :: .s :: .s :: .s :: .s :: .s :: .s :: .s :: .s :: .s :: .s :: .s :: .s :: .s :: .s :: .s :: .s :: .s :: .s :: .s :: .s :: .s :: .s :: .s :: .s :: .s :: .s :: .s :: .s :: .s :: .s :: .s :: .s :: .s :: .s :: .k :: .k :: .k :: .k :: .k :: .k :: .k :: .k :: .k :: .k :: .k :: .k :: .k :: []) t0 x, L0⟩) ∧ (k ≤ N) ∧ nn = N - k) (by simp) ?_ ?_
      · exact ⟨_, ⟨0, (), mixI rfl, Nat.zero_le _, rfl⟩⟩
      · rintro I0 hI0 nn ss ⟨k, _, ⟨y, rfl⟩, g1, rfl⟩
        by_cases hk : k < N
        · have hki : (k : Int) < (N : Int) := by omega
          have hkN : k < (prodW w.sh).toNat := by omega
          have hx := unr_ix (shape_facts (vOK o1).1).2.1 (shape_pos (vOK o1).1 hkN) k
          have q9 := off_ix o1 hx
          have ec := c1 _ hx (by omega)
          have q10 := off_ix e1 (v1 _ hx)
          rw [← ec] at q10
          rw [hwl] at q9
          have hxl : (unrF w.sh (k : Int)).length = w.sh.length := unrF_len _ _
          have hxm := hx.2 m hmw
          rw [hwm] at hxm
          have hsp := (hix w.sh k (vOK o1).1 hkN)
          generalize unrF w.sh (k : Int) = x at *
          obtain ⟨j, hj⟩ : ∃ j : Nat, x.getD m 0 = j := ⟨(x.getD m 0).toNat, by omega⟩
          rw [hj] at hxm
          rw [hj, Int.toNat_natCast] at q10
          have hjI : j < I.length := by omega
          have hmx : m < x.length := by omega
          have hls : (x.set m (I.getD j 0)).length = w.sh.length := by rw [List.length_set]; exact hxl
          repeat' (first | with_reducible first | refine kI (by kernel_rfl) ?_ | refine kN (by kernel_rfl) ?_ | (first | refine kB1 ?_ ?_ | refine kB2 ?_ ?_) <;> intro hp | (first | refine kD1 ?_ ?_ | refine kD2 ?_ ?_ | refine kS1 ?_ ?_ | refine kS2 ?_ ?_) <;> intro hp <;> try simp only [hp] | simp -implicitDefEqProofs (disch := omega) only [go_sem, Nat.reduceAdd, Nat.reduceSub, reduceCtorEq, Nat.reduceLT, Nat.reduceLeDiff, Nat.reduceEqDiff, Nat.reduceMul, Int.reduceToNat, ↓reduceIte, List.take_of_length_le, if_pos, if_neg, List.getElem?_set_self, List.set_set, cnE, cnV, Try.ntmps8, Try.results8,  h4, q6, hki, n3, opQ_none])
          refine InlK_intro rfl rfl can_IndexAt (hsp.call (by simp only [go_sem, ints]) ?_)
          repeat' (first | with_reducible first | refine kI (by kernel_rfl) ?_ | refine kN (by kernel_rfl) ?_ | (first | refine kB1 ?_ ?_ | refine kB2 ?_ ?_) <;> intro hp | (first | refine kD1 ?_ ?_ | refine kD2 ?_ ?_ | refine kS1 ?_ ?_ | refine kS2 ?_ ?_) <;> intro hp <;> try simp only [hp] | simp -implicitDefEqProofs (disch := omega) only [go_sem, Nat.reduceAdd, Nat.reduceSub, reduceCtorEq, Nat.reduceLT, Nat.reduceLeDiff, Nat.reduceEqDiff, Nat.reduceMul, Int.reduceToNat, ↓reduceIte, List.take_of_length_le, if_pos, if_neg, List.getElem?_set_self, List.set_set, cnE, cnV, Try.ntmps8, Try.results8,  hxl, h5, q9, getD_ints hmx, hj, getD_ints hjI, hjI, map_setI, hls, q10])
          exact ⟨N - (k + 1), by omega, hI0 _ _ ⟨k + 1, (), mixI rfl, hk, rfl⟩⟩
        · obtain rfl : k = N := by omega
          repeat' (first | with_reducible first | refine kI (by kernel_rfl) ?_ | refine kN (by kernel_rfl) ?_ | (first | refine kB1 ?_ ?_ | refine kB2 ?_ ?_) <;> intro hp | (first | refine kD1 ?_ ?_ | refine kD2 ?_ ?_ | refine kS1 ?_ ?_ | refine kS2 ?_ ?_) <;> intro hp <;> try simp only [hp] | simp -implicitDefEqProofs (disch := omega) only [go_sem, Nat.reduceAdd, Nat.reduceSub, reduceCtorEq, Nat.reduceLT, Nat.reduceLeDiff, Nat.reduceEqDiff, Nat.reduceMul, Int.reduceToNat, ↓reduceIte, List.take_of_length_le, if_pos, if_neg, List.getElem?_set_self, List.set_set, cnE, cnV, Try.ntmps8, Try.results8,  h4, q6, getD_ints hmw, q8, h6, q7])
    · have e3 : sliR v d s = (⟨0, [], []⟩, false) := by unfold sliR; rw [if_neg hc]
      rw [e3] at q1 hss
      have q2 : gEqV ⟨0, [], []⟩ ⟨0, [], []⟩ = some true := (gEqV_eq ⟨zero_viB, zero_viB⟩).trans (by simp)
      repeat' (first | with_reducible first | refine kI (by kernel_rfl) ?_ | refine kN (by kernel_rfl) ?_ | (first | refine kB1 ?_ ?_ | refine kB2 ?_ ?_) <;> intro hp | (first | refine kD1 ?_ ?_ | refine kD2 ?_ ?_ | refine kS1 ?_ ?_ | refine kS2 ?_ ?_) <;> intro hp <;> try simp only [hp] | simp -implicitDefEqProofs (disch := omega) only [go_sem, Nat.reduceAdd, Nat.reduceSub, reduceCtorEq, Nat.reduceLT, Nat.reduceLeDiff, Nat.reduceEqDiff, Nat.reduceMul, Int.reduceToNat, ↓reduceIte, List.take_of_length_le, if_pos, if_neg, List.getElem?_set_self, List.set_set, cnE, cnV, Try.ntmps8, Try.results8,  h1, q1, n2, opQ_none])
      refine InlK_intro rfl rfl can_SliceDim ((hsl v d s ⟨k1, k2⟩).call (by simp only [go_sem, ints]) ?_)
      rw [hss, if_neg (by simp)]
      simp only [mdR, mdN]
      repeat' (first | with_reducible first | refine kI (by kernel_rfl) ?_ | refine kN (by kernel_rfl) ?_ | (first | refine kB1 ?_ ?_ | refine kB2 ?_ ?_) <;> intro hp | (first | refine kD1 ?_ ?_ | refine kD2 ?_ ?_ | refine kS1 ?_ ?_ | refine kS2 ?_ ?_) <;> intro hp <;> try simp only [hp] | simp -implicitDefEqProofs (disch := omega) only [go_sem, Nat.reduceAdd, Nat.reduceSub, reduceCtorEq, Nat.reduceLT, Nat.reduceLeDiff, Nat.reduceEqDiff, Nat.reduceMul, Int.reduceToNat, ↓reduceIte, List.take_of_length_le, if_pos, if_neg, List.getElem?_set_self, List.set_set, cnE, cnV, Try.ntmps8, Try.results8,  h2, q2])
end Go.Proofs.Ytgpflkmelindfaa
