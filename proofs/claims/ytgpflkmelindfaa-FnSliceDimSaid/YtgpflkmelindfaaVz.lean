/- Contracts of functions that the laws of this seat call. -/
import Derived.Test.YtgpflkmelindfaaVy
set_option linter.all false
namespace Go.Proofs.Ytgpflkmelindfaa
open Go Go.Ev Go.RowKit Go.Ev.Enc Go.Pl

/-! ### lists of ranges -/
theorem enc_rgs (t : Nat) (l : List Rg) : (enc t l : AV) = .ds t (l.map fun x => .agg [.int .i64 x.a, .int .i64 x.z, .int .i64 x.s]) := rfl
theorem dec_rgs (l : List Rg) : (dec (.ds 0 (l.map fun x => .agg [.int .i64 x.a, .int .i64 x.z, .int .i64 x.s])) : Option (List Rg)) = some l := (ok _ _).2 rfl
theorem ee_rgs (t t' : Nat) (L : List Blk) (l : List Rg) : expE (expC t L) (.ds t' (l.map fun x => .agg [.int .i64 x.a, .int .i64 x.z, .int .i64 x.s])) = .ds (min t' t) (l.map fun x => .agg [.int .i64 x.a, .int .i64 x.z, .int .i64 x.s]) := by
  simp [expE, expC, stepC, Function.comp_def]
theorem getD_rgs {l : List Rg} {k : Nat} (h : k < l.length) : (l.map fun x => AV.agg [.int .i64 x.a, .int .i64 x.z, .int .i64 x.s]).getD k .any = .agg [.int .i64 (l.getD k ⟨0, 0, 0⟩).a, .int .i64 (l.getD k ⟨0, 0, 0⟩).z, .int .i64 (l.getD k ⟨0, 0, 0⟩).s] := by simp [h]
theorem gcV_rgs (n : Nat) (L : List Blk) (t : Nat) (l : List Rg) : gcV n L (.ds t (l.map fun x => .agg [.int .i64 x.a, .int .i64 x.z, .int .i64 x.s])) = .ds t (l.map fun x => .agg [.int .i64 x.a, .int .i64 x.z, .int .i64 x.s]) := by
  simp [gcV, expE, gcC, gcStep, Function.comp_def]
theorem expS_rgs (t : Nat) (L : List Blk) (e ver off len : Nat) (q : List Rg) : expS t L ver off len (some ⟨e, q.map fun x => .agg [.int .i64 x.a, .int .i64 x.z, .int .i64 x.s]⟩) = if q.length = ver ∧ off + len ≤ ver then .ds t (((q.drop off).take len).map fun x => .agg [.int .i64 x.a, .int .i64 x.z, .int .i64 x.s]) else .any := by
  simp [expS, expE, stepC, Function.comp_def]
theorem gcB_rgs (n : Nat) (L : List Blk) (e : Nat) (l : List Rg) : gcB n L ⟨e, l.map fun x => .agg [.int .i64 x.a, .int .i64 x.z, .int .i64 x.s]⟩ = ⟨e, l.map fun x => .agg [.int .i64 x.a, .int .i64 x.z, .int .i64 x.s]⟩ := by
  simp [gcB, expE, gcC, gcStep, Function.comp_def]
attribute [go_sem] gcB_rgs expS_rgs gcV_rgs enc_rgs dec_rgs ee_rgs
theorem evApp_rg {L : List Blk} {b n by' : Nat} {q : List Rg} {x : Rg} (hL : L[b]? = some ⟨3, q.map fun x => .agg [.int .i64 x.a, .int .i64 x.z, .int .i64 x.s]⟩) (hn : q.length = n) (h1 : (n + 1) * by' ≤ 140737488355328) (h2 : n + 1 ≤ 9223372036854775807) :
    evApp L (.sl b n 0 n n) [.agg [.int .i64 x.a, .int .i64 x.z, .int .i64 x.s]] 3 by' = some (.sl b (n + 1) 0 (n + 1) (n + 1), L.set b ⟨3, (q ++ [x]).map fun x => .agg [.int .i64 x.a, .int .i64 x.z, .int .i64 x.s]⟩) := by
  rw [evApp_gen hL (by simpa using hn) (by simpa using h1) (by simpa using h2)]
  simp
def rgOK (r : Rg) : Bool := inR r.a (-100) 100 && (inR r.z (-101) 101 && (inR r.s (-200) 200 && !(r.s == 0)))
def gRgOK (r : Rg) : Option Bool := gd True (rgOK r)
theorem gRgOK_eq (r : Rg) : gRgOK r = some (rgOK r) := rfl
set_option maxHeartbeats 4000000 in
set_option maxRecDepth 100000 in
theorem spec_validRange {Sg : FuncId → Option (List AV → Option AV)} (hS : Sound Try.prog Sg) (hr : Sg 60 = some (F3 gInRange)) : ∀ a r, F1 gRgOK a = some r → CSpec Try.prog 131 a r := by
  refine F1_spec ?_
  intro g r hr0
  obtain ⟨-, rfl⟩ := gd_some hr0
  refine CSpec.intro Try.func131 rfl (own _) (vc3_sound Try.pf hS hS _ _ _ ?_)
  have q1 := gInRange_eq g.a (-100) 100
  have q2 := gInRange_eq g.z (-101) 101
  have q3 := gInRange_eq g.s (-200) 200
  unfold rgOK
  cases e1 : inR g.a (-100) 100 with
  | false =>
    rw [e1] at q1
    repeat' (first | with_reducible first | refine kI (by kernel_rfl) ?_ | refine kN (by kernel_rfl) ?_ | (first | refine kB1 ?_ ?_ | refine kB2 ?_ ?_) <;> intro hp | (first | refine kD1 ?_ ?_ | refine kD2 ?_ ?_ | refine kS1 ?_ ?_ | refine kS2 ?_ ?_) <;> intro hp <;> try simp only [hp] | simp -implicitDefEqProofs (disch := omega) only [go_sem, Nat.reduceAdd, Nat.reduceSub, reduceCtorEq, Nat.reduceLT, Nat.reduceLeDiff, Nat.reduceEqDiff, Nat.reduceMul, Int.reduceToNat, ↓reduceIte, List.take_of_length_le, if_pos, if_neg, List.getElem?_set_self, List.set_set, cnE, cnV, Try.ntmps131, Try.results131,  hr, q1])
    try rfl
  | true =>
    rw [e1] at q1
    cases e2 : inR g.z (-101) 101 with
    | false =>
      rw [e2] at q2
      repeat' (first | with_reducible first | refine kI (by kernel_rfl) ?_ | refine kN (by kernel_rfl) ?_ | (first | refine kB1 ?_ ?_ | refine kB2 ?_ ?_) <;> intro hp | (first | refine kD1 ?_ ?_ | refine kD2 ?_ ?_ | refine kS1 ?_ ?_ | refine kS2 ?_ ?_) <;> intro hp <;> try simp only [hp] | simp -implicitDefEqProofs (disch := omega) only [go_sem, Nat.reduceAdd, Nat.reduceSub, reduceCtorEq, Nat.reduceLT, Nat.reduceLeDiff, Nat.reduceEqDiff, Nat.reduceMul, Int.reduceToNat, ↓reduceIte, List.take_of_length_le, if_pos, if_neg, List.getElem?_set_self, List.set_set, cnE, cnV, Try.ntmps131, Try.results131,  hr, q1, q2])
      try rfl
    | true =>
      rw [e2] at q2
      cases e3 : inR g.s (-200) 200 with
      | false =>
        rw [e3] at q3
        repeat' (first | with_reducible first | refine kI (by kernel_rfl) ?_ | refine kN (by kernel_rfl) ?_ | (first | refine kB1 ?_ ?_ | refine kB2 ?_ ?_) <;> intro hp | (first | refine kD1 ?_ ?_ | refine kD2 ?_ ?_ | refine kS1 ?_ ?_ | refine kS2 ?_ ?_) <;> intro hp <;> try simp only [hp] | simp -implicitDefEqProofs (disch := omega) only [go_sem, Nat.reduceAdd, Nat.reduceSub, reduceCtorEq, Nat.reduceLT, Nat.reduceLeDiff, Nat.reduceEqDiff, Nat.reduceMul, Int.reduceToNat, ↓reduceIte, List.take_of_length_le, if_pos, if_neg, List.getElem?_set_self, List.set_set, cnE, cnV, Try.ntmps131, Try.results131,  hr, q1, q2, q3])
        try rfl
      | true =>
        rw [e3] at q3
        cases e4 : (g.s == 0) with
        | false =>
          repeat' (first | with_reducible first | refine kI (by kernel_rfl) ?_ | refine kN (by kernel_rfl) ?_ | (first | refine kB1 ?_ ?_ | refine kB2 ?_ ?_) <;> intro hp | (first | refine kD1 ?_ ?_ | refine kD2 ?_ ?_ | refine kS1 ?_ ?_ | refine kS2 ?_ ?_) <;> intro hp <;> try simp only [hp] | simp -implicitDefEqProofs (disch := omega) only [go_sem, Nat.reduceAdd, Nat.reduceSub, reduceCtorEq, Nat.reduceLT, Nat.reduceLeDiff, Nat.reduceEqDiff, Nat.reduceMul, Int.reduceToNat, ↓reduceIte, List.take_of_length_le, if_pos, if_neg, List.getElem?_set_self, List.set_set, cnE, cnV, Try.ntmps131, Try.results131,  hr, q1, q2, q3, e4])
          try rfl
        | true =>
          repeat' (first | with_reducible first | refine kI (by kernel_rfl) ?_ | refine kN (by kernel_rfl) ?_ | (first | refine kB1 ?_ ?_ | refine kB2 ?_ ?_) <;> intro hp | (first | refine kD1 ?_ ?_ | refine kD2 ?_ ?_ | refine kS1 ?_ ?_ | refine kS2 ?_ ?_) <;> intro hp <;> try simp only [hp] | simp -implicitDefEqProofs (disch := omega) only [go_sem, Nat.reduceAdd, Nat.reduceSub, reduceCtorEq, Nat.reduceLT, Nat.reduceLeDiff, Nat.reduceEqDiff, Nat.reduceMul, Int.reduceToNat, ↓reduceIte, List.take_of_length_le, if_pos, if_neg, List.getElem?_set_self, List.set_set, cnE, cnV, Try.ntmps131, Try.results131,  hr, q1, q2, q3, e4])
          try rfl
/-- how many of k, k + w, .. are less than n -/
def cntD (n k w : Nat) : Nat := (n - k + (w - 1)) / w
def dealT (l : List Int) (k w m : Nat) : List Int := (List.range m).map fun j => l.getD (k + j * w) 0
theorem dealT_s (l : List Int) (k w m : Nat) : dealT l k w m ++ [l.getD (k + m * w) 0] = dealT l k w (m + 1) := by
  unfold dealT
  rw [List.range_succ, List.map_append]; rfl
theorem dealT_len (l : List Int) (k w m : Nat) : (dealT l k w m).length = m := by simp [dealT]
theorem cntD_lt {n k w m : Nat} (hw : 0 < w) : m < cntD n k w ↔ k + m * w < n := by
  unfold cntD
  rw [Nat.lt_iff_add_one_le, Nat.le_div_iff_mul_le hw, Nat.add_mul]
  omega
def dealF (l : List Int) (w : Nat) : List Rg := (List.range w).map fun k => nrmF (dealT l k w (cntD l.length k w))
def gDeal (r : Rg) (w : Int) : Option (List Rg) := gd (rgOK r = true ∧ 1 ≤ w ∧ w ≤ 6) (dealF (numF r) w.toNat)
theorem gDeal_eq {r : Rg} {w : Int} (h : rgOK r = true ∧ 1 ≤ w ∧ w ≤ 6) : gDeal r w = some (dealF (numF r) w.toNat) := gd_eq h
theorem rgOK_b {r : Rg} (h : rgOK r = true) : rgB r := by
  unfold rgOK inR at h
  simp only [Bool.and_eq_true, decide_eq_true_eq] at h
  obtain ⟨h1, h2, h3, _⟩ := h
  exact ⟨⟨by omega, by omega⟩, ⟨by omega, by omega⟩, by omega, by omega⟩
theorem numF_small {r : Rg} (h : rgB r) : smallL 1000 (numF r) := fun x hx => by
  obtain ⟨h1, h2, h3⟩ := h
  have := numL_in _ _ _ hx
  omega
theorem getD_small {m : Int} {l : List Int} (hm : 0 ≤ m) (h : smallL m l) (k : Nat) : -m ≤ l.getD k 0 ∧ l.getD k 0 ≤ m := by
  by_cases hk : k < l.length
  · exact smallL_at h hk
  · rw [List.getD_eq_getElem?_getD, List.getElem?_eq_none (by omega)]
    simp only [Option.getD_none]
    omega
set_option maxHeartbeats 4000000 in
set_option maxRecDepth 100000 in
theorem spec_DealRange {Sg : FuncId → Option (List AV → Option AV)} (hS : Sound Try.prog Sg) (hv : Sg 131 = some (F1 gRgOK)) (hr : Sg 60 = some (F3 gInRange)) (hn : Sg 119 = some (F1 gNumbers)) (ho : Sg 85 = some (F1 gNormal)) : ∀ a r, F2 gDeal a = some r → CSpec Try.prog 118 a r := by
  refine F2_spec ?_
  intro g w r hr0
  obtain ⟨⟨h1, h2, h3⟩, rfl⟩ := gd_some hr0
  refine CSpec.intro Try.func118 rfl (own _) (vc3_sound Try.pf hS hS _ _ _ ?_)
  obtain ⟨m, rfl⟩ : ∃ m : Nat, w = m := ⟨w.toNat, by omega⟩
  have q1 := gRgOK_eq g
  rw [h1] at q1
  have q2 := gInRange_eq (m : Int) 1 6
  have e2 : inR (m : Int) 1 6 = true := by unfold inR; simp only [Bool.and_eq_true, decide_eq_true_eq]; omega
  rw [e2] at q2
  have hb := rgOK_b h1
  have q3 := gNumbers_eq hb
  have hl := numF_len hb
  have hsm := numF_small hb
  rw [Int.toNat_natCast]
  generalize numF g = N at *
  have hm : 0 < m := by omega
  repeat' (first | with_reducible first | refine kI (by kernel_rfl) ?_ | refine kN (by kernel_rfl) ?_ | (first | refine kB1 ?_ ?_ | refine kB2 ?_ ?_) <;> intro hp | (first | refine kD1 ?_ ?_ | refine kD2 ?_ ?_ | refine kS1 ?_ ?_ | refine kS2 ?_ ?_) <;> intro hp <;> try simp only [hp] | simp -implicitDefEqProofs (disch := omega) only [go_sem, Nat.reduceAdd, Nat.reduceSub, reduceCtorEq, Nat.reduceLT, Nat.reduceLeDiff, Nat.reduceEqDiff, Nat.reduceMul, Int.reduceToNat, ↓reduceIte, List.take_of_length_le, if_pos, if_neg, List.getElem?_set_self, List.set_set, cnE, cnV, Try.ntmps118, Try.results118,  hv, q1, hr, q2, hn, q3])
  refine LoopQ.mixG 2 (fun t0 L0 nn ss => ∃ (k : Nat) (q : List Rg) (_ : Unit), (∃ x : Nat → AV, ss = ⟨mixL 0 (.k :: .k :: .k :: .k :: .k :: .v (.sl 1 k 0 k k) :: .k :: .v (i64 (k : Nat)) :: .s :: .s :: .k :: .k :: .k :: .k :: .k :: .k :: .k :: .k :: .k :: .k :: .k :: .s :: .s :: .s :: .s :: .s :: .s :: .s :: .s :: .s :: .s :: .s :: .s :: .s :: .s :: .s :: .s :: .s :: .s :: .s :: .s :: .s :: .s :: .s :: .s :: .s :: .s :: .k :: []) t0 x, [⟨3, [.agg [i64 g.a, i64 g.z, i64 g.s]]⟩, ⟨3, q.map fun x => .agg [.int .i64 x.a, .int .i64 x.z, .int .i64 x.s]⟩]⟩) ∧ (k ≤ m) ∧ (q.length = k) ∧ (q = (List.range k).map fun k => nrmF (dealT N k m (cntD N.length k m))) ∧ nn = m - k) (by simp) ?_ ?_
  · exact ⟨_, ⟨0, [], (), mixJ rfl (rfl), Nat.zero_le _, rfl, rfl, rfl⟩⟩
  · rintro I0 hI0 nn ss ⟨k, q, _, ⟨x, rfl⟩, m1, m2, m3, rfl⟩
    by_cases hk : k < m
    · have hki : (k : Int) < (m : Int) := by omega
      repeat' (first | with_reducible first | refine kI (by kernel_rfl) ?_ | refine kN (by kernel_rfl) ?_ | (first | refine kB1 ?_ ?_ | refine kB2 ?_ ?_) <;> intro hp | (first | refine kD1 ?_ ?_ | refine kD2 ?_ ?_ | refine kS1 ?_ ?_ | refine kS2 ?_ ?_) <;> intro hp <;> try simp only [hp] | simp -implicitDefEqProofs (disch := omega) only [go_sem, Nat.reduceAdd, Nat.reduceSub, reduceCtorEq, Nat.reduceLT, Nat.reduceLeDiff, Nat.reduceEqDiff, Nat.reduceMul, Int.reduceToNat, ↓reduceIte, List.take_of_length_le, if_pos, if_neg, List.getElem?_set_self, List.set_set, cnE, cnV, Try.ntmps118, Try.results118,  hki])
      refine LoopQ.mix (fun t0 L0 nn ss => ∃ (j : Nat) (i : Nat) (z : List Int) (_ : Unit), (∃ x : Nat → AV, ss = ⟨mixL 0 (.k :: .k :: .k :: .k :: .k :: .k :: .k :: .k :: .v (.sl 2 j 0 j j) :: .v (i64 (i : Nat)) :: .k :: .k :: .k :: .k :: .k :: .k :: .k :: .k :: .k :: .k :: .k :: .k :: .k :: .k :: .k :: .k :: .k :: .k :: .s :: .s :: .s :: .s :: .s :: .s :: .s :: .s :: .s :: .s :: .s :: .s :: .s :: .s :: .k :: .k :: .k :: .k :: .k :: .k :: []) t0 x, [⟨3, [.agg [i64 g.a, i64 g.z, i64 g.s]]⟩, ⟨3, q.map fun x => .agg [.int .i64 x.a, .int .i64 x.z, .int .i64 x.s]⟩, ⟨1, z.map fun n => .int .i64 n⟩]⟩) ∧ (i = k + j * m) ∧ (z = dealT N k m j) ∧ (j ≤ cntD N.length k m) ∧ nn = N.length + 10 - i) ?_ ?_
      · exact ⟨_, ⟨0, k, [], (), mixJ rfl (rfl), by omega, rfl, Nat.zero_le _, rfl⟩⟩
      · rintro I1 hI1 nn1 s1 ⟨j, i, z, _, ⟨y, rfl⟩, p1, p2, p3, rfl⟩
        have hz : z.length = j := by rw [p2, dealT_len]
        have hc := cntD_lt (n := N.length) (k := k) (m := j) hm
        rw [← p1] at hc
        have hji : j ≤ i := by rw [p1]; exact Nat.le_trans (Nat.le_mul_of_pos_right j hm) (Nat.le_add_left _ _)
        by_cases hi : i < N.length
        · have hii : (i : Int) < (N.length : Int) := by omega
          have hw : IntKind.i64.wrap ((i : Int) + (m : Int)) = ((i + m : Nat) : Int) := by rw [wrap_in (by omega)]; omega
          have hs := dealT_s N k m j
          rw [← p2, ← p1] at hs
          repeat' (first | with_reducible first | refine kI (by kernel_rfl) ?_ | refine kN (by kernel_rfl) ?_ | (first | refine kB1 ?_ ?_ | refine kB2 ?_ ?_) <;> intro hp | (first | refine kD1 ?_ ?_ | refine kD2 ?_ ?_ | refine kS1 ?_ ?_ | refine kS2 ?_ ?_) <;> intro hp <;> try simp only [hp] | simp -implicitDefEqProofs (disch := omega) only [go_sem, Nat.reduceAdd, Nat.reduceSub, reduceCtorEq, Nat.reduceLT, Nat.reduceLeDiff, Nat.reduceEqDiff, Nat.reduceMul, Int.reduceToNat, ↓reduceIte, List.take_of_length_le, if_pos, if_neg, List.getElem?_set_self, List.set_set, cnE, cnV, Try.ntmps118, Try.results118,  hii, hw])
          exact ⟨N.length + 10 - (i + m), by omega, hI1 _ _ ⟨j + 1, i + m, z ++ [N.getD i 0], (), mixI rfl, by rw [p1, Nat.add_mul]; omega, hs, hc.2 hi, rfl⟩⟩
        · have hii : ¬ (i : Int) < (N.length : Int) := by omega
          obtain rfl : j = cntD N.length k m := by
            have : ¬ j < cntD N.length k m := fun h => hi (hc.1 h)
            omega
          have hzl : z.length ≤ 3000 := by
            rw [hz]
            unfold cntD
            exact Nat.le_trans (Nat.div_le_self _ _) (by omega)
          have q4 := gNormal_eq (l := z) ⟨by omega, fun x hx => by
            rw [p2] at hx
            unfold dealT at hx
            obtain ⟨t, -, rfl⟩ := List.mem_map.1 hx
            have := getD_small (by omega) hsm (k + t * m)
            omega⟩
          have hA : ∀ Y, evApp (⟨3, [.agg [i64 g.a, i64 g.z, i64 g.s]]⟩ :: ⟨3, q.map fun x => .agg [.int .i64 x.a, .int .i64 x.z, .int .i64 x.s]⟩ :: Y) (.sl 1 k 0 k k) [.agg [i64 (nrmF z).a, i64 (nrmF z).z, i64 (nrmF z).s]] 3 24 = some (.sl 1 (k + 1) 0 (k + 1) (k + 1), ⟨3, [.agg [i64 g.a, i64 g.z, i64 g.s]]⟩ :: ⟨3, (q ++ [nrmF z]).map fun x => .agg [.int .i64 x.a, .int .i64 x.z, .int .i64 x.s]⟩ :: Y) := fun Y =>
            evApp_rg (b := 1) (x := nrmF z) rfl m2 (by omega) (by omega)
          have hs2 : q ++ [nrmF z] = (List.range (k + 1)).map fun k => nrmF (dealT N k m (cntD N.length k m)) := by
            rw [m3, List.range_succ, List.map_append, p2]; rfl
          repeat' (first | with_reducible first | refine kI (by kernel_rfl) ?_ | refine kN (by kernel_rfl) ?_ | (first | refine kB1 ?_ ?_ | refine kB2 ?_ ?_) <;> intro hp | (first | refine kD1 ?_ ?_ | refine kD2 ?_ ?_ | refine kS1 ?_ ?_ | refine kS2 ?_ ?_) <;> intro hp <;> try simp only [hp] | simp -implicitDefEqProofs (disch := omega) only [go_sem, Nat.reduceAdd, Nat.reduceSub, reduceCtorEq, Nat.reduceLT, Nat.reduceLeDiff, Nat.reduceEqDiff, Nat.reduceMul, Int.reduceToNat, ↓reduceIte, List.take_of_length_le, if_pos, if_neg, List.getElem?_set_self, List.set_set, cnE, cnV, Try.ntmps118, Try.results118,  hii, ho, q4, hA])
          exact ⟨m - (k + 1), by omega, hI0 _ _ ⟨k + 1, q ++ [nrmF z], (), mixI rfl, hk, by simp [m2], hs2, rfl⟩⟩
    · obtain rfl : k = m := by omega
      repeat' (first | with_reducible first | refine kI (by kernel_rfl) ?_ | refine kN (by kernel_rfl) ?_ | (first | refine kB1 ?_ ?_ | refine kB2 ?_ ?_) <;> intro hp | (first | refine kD1 ?_ ?_ | refine kD2 ?_ ?_ | refine kS1 ?_ ?_ | refine kS2 ?_ ?_) <;> intro hp <;> try simp only [hp] | simp -implicitDefEqProofs (disch := omega) only [go_sem, Nat.reduceAdd, Nat.reduceSub, reduceCtorEq, Nat.reduceLT, Nat.reduceLeDiff, Nat.reduceEqDiff, Nat.reduceMul, Int.reduceToNat, ↓reduceIte, List.take_of_length_le, if_pos, if_neg, List.getElem?_set_self, List.set_set, cnE, cnV, Try.ntmps118, Try.results118])
      rw [m3]; rfl
/-! ### tilings -/
def tileV (w : Int) (g : Rg) : Option Vi := if 0 < (numF g).length then some ⟨(numF g).getD 0 0, [((numF g).length : Int)], [w]⟩ else none
def tileF (w : Int) (P : List Rg) (k : Nat) : List Vi := (P.take k).filterMap (tileV w)
theorem tileF_s {w : Int} {P : List Rg} {k : Nat} (hk : k < P.length) : tileF w P (k + 1) = match tileV w (P.getD k ⟨0, 0, 0⟩) with
    | some v => tileF w P k ++ [v]
    | none => tileF w P k := by
  unfold tileF
  rw [List.take_succ_eq_append_getElem hk, List.filterMap_append]
  rw [show P.getD k ⟨0, 0, 0⟩ = P[k] by simp [hk]]
  cases h : tileV w P[k] <;> simp [h]
theorem tileF_len (w : Int) (P : List Rg) (k : Nat) : (tileF w P k).length ≤ k :=
  Nat.le_trans (List.length_filterMap_le _ _) (by rw [List.length_take]; omega)
theorem tileF_v {w : Int} {P : List Rg} {k : Nat} {v : Vi} (h : v ∈ tileF w P k) : v.sh.length = 1 ∧ v.st.length = 1 := by
  unfold tileF at h
  obtain ⟨g, -, hg⟩ := List.mem_filterMap.1 h
  unfold tileV at hg
  split at hg
  · cases hg; exact ⟨rfl, rfl⟩
  · cases hg
theorem tile_facts : ∀ n ∈ [(12 : Int), 8, 10, 6, 15], ∀ w ∈ [(2 : Int), 3, 1, 4], rgOK ⟨0, n, 1⟩ = true ∧ (dealF (numF ⟨0, n, 1⟩) w.toNat).all (fun g => decide (rgB g)) = true ∧ 0 < (tileF w (dealF (numF ⟨0, n, 1⟩) w.toNat) w.toNat).length := by decide +kernel
/-- a view in a list: its strides are data, or lie in a block -/
abbrev viE (v : Vi) : AV := .agg [.int .i64 v.b, ints 1 v.sh, ints 1 v.st]
theorem evApp_vi {L : List Blk} {b n by' : Nat} {q : List AV} {x : AV} (hL : L[b]? = some ⟨3, q⟩) (hn : q.length = n) (h1 : (n + 1) * by' ≤ 140737488355328) (h2 : n + 1 ≤ 9223372036854775807) :
    evApp L (.sl b n 0 n n) [x] 3 by' = some (.sl b (n + 1) 0 (n + 1) (n + 1), L.set b ⟨3, q ++ [x]⟩) :=
  evApp_gen hL hn (by simpa using h1) (by simpa using h2)
abbrev sel3 (g : Nat → Option Nat) (L : List Blk) : AV → AV := selStep g L (selStep g L (selStep g L fun _ => .any))
theorem selC_vis {g : Nat → Option Nat} {L : List Blk} {b m : Nat} {es fs : List AV} (hg : g b = none) (hb : L[b]? = some ⟨3, es⟩) (hm : es.length = m) (h : es.map (expE (sel3 g L)) = fs) : selC g L (.sl b m 0 m m) = .ds 1 fs := by
  subst hm h
  simp [selC, selStep, hg, hb, sel3]
theorem sel3_vit {g : Nat → Option Nat} {L : List Blk} (x : Nat × Vi) : expE (sel3 g L) (viT x) = viT x := by
  simp [sel3, selStep, expE, Function.comp_def, ints]
theorem sel3_vis {g : Nat → Option Nat} {L : List Blk} {k : Nat} {v : Vi} (hg : g k = none) (hb : L[k]? = some (stB v.st)) : expE (sel3 g L) (viS k v) = viT (1, v) := by
  simp [sel3, selStep, expE, Function.comp_def, ints, hg, hb, List.take_of_length_le]
theorem sel3_map {g : Nat → Option Nat} {L : List Blk} (q : List (Nat × Vi)) : (q.map viT).map (expE (sel3 g L)) = q.map viT := by
  rw [List.map_map]
  exact List.map_congr_left fun x _ => sel3_vit x
set_option maxHeartbeats 4000000 in
set_option maxRecDepth 100000 in
theorem isp_tiling {Sg : FuncId → Option (List AV → Option AV)} (hS : Sound Try.prog Sg) (h0 : Sg 81 = none) (h1 : Sg 56 = none) (h2 : Sg 82 = none) (h3 : Sg 120 = none) (hd : Sg 118 = some (F2 gDeal)) (hn : Sg 119 = some (F1 gNumbers)) {bs : List UInt8} {b n : Nat} {rL : Int → List Blk} (hC : RC bs b n rL) (hb : bs.length ≤ 2000) (p : Int) (hp : 0 ≤ p ∧ p ≤ 700000000) (hsv : SomeV) (hgv : ∀ {bs : List UInt8} {b n : Nat} {rL : Int → List Blk} (hC : RC bs b n rL) (hb : bs.length ≤ 2000) (p : Int) (hp : 0 ≤ p ∧ p ≤ 800000000), ISpec Try.prog 120 [.ptr b 1 0 0] (rL p) fun r L' => ∃ (v : Vi) (p' : Int), v.sh.length ≤ 4 ∧ v.st.length = v.sh.length ∧ r = viS n v ∧ p ≤ p' ∧ p' ≤ p + 200 ∧ L' = rL p' ++ [stB v.st]) : ISpec Try.prog 74 [.ptr b 1 0 0] (rL p) (fun r L' => ∃ (q : List (Nat × Vi)) (z p' : Int), vsB (q.map (·.2)) ∧ r = .tup [.ds 1 (q.map viT), i64 z] ∧ p ≤ p' ∧ p' ≤ p + 500 ∧ L' = rL p') := by
  refine ISpec.ret Try.func74 rfl (vc3_sound Try.pf hS hS _ _ _ ?_)
  repeat' (first | with_reducible first | refine kI (by kernel_rfl) ?_ | (first | refine kB1 ?_ ?_ | refine kB2 ?_ ?_) <;> intro hp | (first | refine kD1 ?_ ?_ | refine kD2 ?_ ?_ | refine kS1 ?_ ?_ | refine kS2 ?_ ?_) <;> intro hp <;> try simp only [hp] | simp -implicitDefEqProofs (disch := omega) only [go_sem, Nat.reduceAdd, Nat.reduceSub, reduceCtorEq, Nat.reduceLT, Nat.reduceLeDiff, Nat.reduceEqDiff, Nat.reduceMul, Int.reduceToNat, ↓reduceIte, List.take_of_length_le, if_pos, if_neg, List.getElem?_set_self, List.set_set, cnE, cnV, Try.ntmps74, Try.results74,  hC.cn, h1, opQ_none])
  refine InlK_intro rfl rfl can_one ((isp_one hS h0 hC hb p (by omega) 2 [12, 8, 10, 6, 15] (by decide)).mono ?_)
  rintro r L1 ⟨nn, rfl, hnn, rfl⟩
  repeat' (first | with_reducible first | refine kI (by kernel_rfl) ?_ | (first | refine kB1 ?_ ?_ | refine kB2 ?_ ?_) <;> intro hp | (first | refine kD1 ?_ ?_ | refine kD2 ?_ ?_ | refine kS1 ?_ ?_ | refine kS2 ?_ ?_) <;> intro hp <;> try simp only [hp] | simp -implicitDefEqProofs (disch := omega) only [go_sem, Nat.reduceAdd, Nat.reduceSub, reduceCtorEq, Nat.reduceLT, Nat.reduceLeDiff, Nat.reduceEqDiff, Nat.reduceMul, Int.reduceToNat, ↓reduceIte, List.take_of_length_le, if_pos, if_neg, List.getElem?_set_self, List.set_set, cnE, cnV, Try.ntmps74, Try.results74,  hC.cn, h1, opQ_none])
  refine InlK_intro rfl rfl can_one ((isp_one hS h0 hC hb _ (by omega) 2 [2, 3, 1, 4] (by decide)).mono ?_)
  rintro r L1 ⟨w, rfl, hww, rfl⟩
  obtain ⟨t1, t2, t3⟩ := tile_facts nn hnn w hww
  have hw : 1 ≤ w ∧ w ≤ 4 := by simp at hww; omega
  have hnb : 6 ≤ nn ∧ nn ≤ 15 := by simp at hnn; omega
  have q1 := gDeal_eq (r := ⟨0, nn, 1⟩) (w := w) ⟨t1, by omega, by omega⟩
  obtain ⟨m, rfl⟩ : ∃ m : Nat, w = m := ⟨w.toNat, by omega⟩
  rw [Int.toNat_natCast] at q1 t2 t3
  have hPl : (dealF (numF ⟨0, nn, 1⟩) m).length = m := by simp [dealF]
  generalize dealF (numF ⟨0, nn, 1⟩) m = P at *
  repeat' (first | with_reducible first | refine kI (by kernel_rfl) ?_ | (first | refine kB1 ?_ ?_ | refine kB2 ?_ ?_) <;> intro hp | (first | refine kD1 ?_ ?_ | refine kD2 ?_ ?_ | refine kS1 ?_ ?_ | refine kS2 ?_ ?_) <;> intro hp <;> try simp only [hp] | simp -implicitDefEqProofs (disch := omega) only [go_sem, Nat.reduceAdd, Nat.reduceSub, reduceCtorEq, Nat.reduceLT, Nat.reduceLeDiff, Nat.reduceEqDiff, Nat.reduceMul, Int.reduceToNat, ↓reduceIte, List.take_of_length_le, if_pos, if_neg, List.getElem?_set_self, List.set_set, cnE, cnV, Try.ntmps74, Try.results74,  hC.cn, hd, q1])
  have hA : ∀ (p : Int) (X : List Blk) (q : List AV) (c : Nat) (x : AV), q.length = c → c ≤ 1000 → evApp (rL p ++ (⟨3, q⟩ :: X)) (.sl n c 0 c c) [x] 3 56 = some (.sl n (c + 1) 0 (c + 1) (c + 1), rL p ++ (⟨3, q ++ [x]⟩ :: X)) := fun p X q c x h1 h2 => by
    rw [evApp_vi (q := q) (by rw [hC.at0]; rfl) h1 (by omega) (by omega), hC.sat0]; rfl
  refine LoopQ.mix (fun t0 L0 nn ss => ∃ (k : Nat) (c : Nat) (_ : Unit), (∃ x : Nat → AV, ss = ⟨mixL 0 (.k :: .k :: .k :: .k :: .k :: .k :: .v (.sl n c 0 c c) :: .k :: .v (i64 (k : Nat)) :: .s :: .k :: .k :: .k :: .k :: .k :: .k :: .k :: .k :: .k :: .k :: .k :: .s :: .s :: .s :: .s :: .s :: .s :: .s :: .s :: .s :: .s :: .s :: .s :: .s :: .s :: .s :: .s :: .s :: .s :: .s :: .s :: .s :: .s :: .s :: .s :: .s :: .s :: .k :: .k :: .k :: .k :: .k :: .k :: .k :: .k :: .k :: .k :: .k :: .k :: .k :: .k :: .k :: .k :: .k :: .k :: .k :: .k :: .k :: .k :: .k :: .k :: []) t0 x, rL (p + 1 + 1) ++ [⟨3, ((tileF m P k).map fun v => (2, v)).map viT⟩]⟩) ∧ (k ≤ m) ∧ (c = (tileF m P k).length) ∧ nn = m - k) ?_ ?_
  · exact ⟨_, ⟨0, 0, (), mixI rfl, Nat.zero_le _, rfl, rfl⟩⟩
  · rintro I0 hI0 n1 s ⟨k, c, _, ⟨x, rfl⟩, g1, g2, rfl⟩
    have hcl := tileF_len m P k
    by_cases hk : k < m
    · have hkP : k < P.length := by omega
      have hki : (k : Int) < (P.length : Int) := by omega
      have hs := tileF_s (w := m) hkP
      have hm : P.getD k ⟨0, 0, 0⟩ ∈ P := by simp [hkP]
      have hb3 : rgB (P.getD k ⟨0, 0, 0⟩) := of_decide_eq_true (List.all_eq_true.1 t2 _ hm)
      have q2 := gNumbers_eq hb3
      have hnl := numF_len hb3
      unfold tileV at hs
      by_cases h0' : 0 < (numF (P.getD k ⟨0, 0, 0⟩)).length
      · rw [if_pos h0'] at hs
        generalize numF (P.getD k ⟨0, 0, 0⟩) = N at *
        have h0i : (0 : Int) < (N.length : Int) := by omega
        have hA1 := hA (p + 1 + 1) [] (((tileF m P k).map fun v => (2, v)).map viT) c (.agg [.int .i64 (N.getD 0 0), .ds 2 [.int .i64 (N.length : Int)], .ds 2 [i64 (m : Nat)]]) (by simp [g2]) (by omega)
        repeat' (first | with_reducible first | refine kI (by kernel_rfl) ?_ | (first | refine kB1 ?_ ?_ | refine kB2 ?_ ?_) <;> intro hp | (first | refine kD1 ?_ ?_ | refine kD2 ?_ ?_ | refine kS1 ?_ ?_ | refine kS2 ?_ ?_) <;> intro hp <;> try simp only [hp] | simp -implicitDefEqProofs (disch := omega) only [go_sem, Nat.reduceAdd, Nat.reduceSub, reduceCtorEq, Nat.reduceLT, Nat.reduceLeDiff, Nat.reduceEqDiff, Nat.reduceMul, Int.reduceToNat, ↓reduceIte, List.take_of_length_le, if_pos, if_neg, List.getElem?_set_self, List.set_set, cnE, cnV, Try.ntmps74, Try.results74,  hC.cn, hki, getD_rgs hkP, hn, q2, h0i, hA1])
        exact ⟨m - (k + 1), by omega, hI0 _ _ ⟨k + 1, c + 1, (), mixJ rfl (by rw [hs]; simp), hk, by rw [hs]; simp [g2], rfl⟩⟩
      · rw [if_neg h0'] at hs
        generalize numF (P.getD k ⟨0, 0, 0⟩) = N at *
        have h0i : ¬ (0 : Int) < (N.length : Int) := by omega
        repeat' (first | with_reducible first | refine kI (by kernel_rfl) ?_ | (first | refine kB1 ?_ ?_ | refine kB2 ?_ ?_) <;> intro hp | (first | refine kD1 ?_ ?_ | refine kD2 ?_ ?_ | refine kS1 ?_ ?_ | refine kS2 ?_ ?_) <;> intro hp <;> try simp only [hp] | simp -implicitDefEqProofs (disch := omega) only [go_sem, Nat.reduceAdd, Nat.reduceSub, reduceCtorEq, Nat.reduceLT, Nat.reduceLeDiff, Nat.reduceEqDiff, Nat.reduceMul, Int.reduceToNat, ↓reduceIte, List.take_of_length_le, if_pos, if_neg, List.getElem?_set_self, List.set_set, cnE, cnV, Try.ntmps74, Try.results74,  hC.cn, hki, getD_rgs hkP, hn, q2, h0i])
        exact ⟨m - (k + 1), by omega, hI0 _ _ ⟨k + 1, c, (), mixJ rfl (by rw [hs]), hk, by rw [hs]; exact g2, rfl⟩⟩
    · obtain rfl : k = m := by omega
      have hki : ¬ (k : Int) < (P.length : Int) := by omega
      have hc8 : c ≤ 1000 := by omega
      have hw1 : IntKind.i64.wrap (nn + 1) = nn + 1 := wrap_in (by omega)
      have htv := fun v => tileF_v (w := k) (P := P) (k := k) (v := v)
      generalize tileF k P k = T at *
      have hfin : ∀ (p1 : Int) (q : List (Nat × Vi)) (es : List AV) (c1 : Nat) (X : List Blk) (z : Int), p ≤ p1 → p1 ≤ p + 500 → es.length = c1 → vsB (q.map (·.2)) → es.map (expE (sel3 (gR n []) (rL p1 ++ (⟨3, es⟩ :: X)))) = q.map viT → RetQ (rL p) (fun r L' => ∃ (q : List (Nat × Vi)) (z p' : Int), vsB (q.map (·.2)) ∧ r = .tup [.ds 1 (q.map viT), i64 z] ∧ p ≤ p' ∧ p' ≤ p + 500 ∧ L' = rL p') (.tup [.sl n c1 0 c1 c1, i64 z]) (rL p1 ++ (⟨3, es⟩ :: X)) := fun p1 q es c1 X z w1 w2 w3 w4 w5 => by
        refine hC.ret0 ⟨q, z, p1, w4, ?_, w1, w2, rfl⟩
        rw [selV_tup]
        simp only [List.map_cons, List.map_nil, expE]
        rw [selC_vis (gR_ge (Nat.le_refl _)) (by rw [hC.at0]; rfl) w3 w5, selC_int]
      have hTb : vsB ((T.map fun v => ((2, v) : Nat × Vi)).map (·.2)) := by
        refine ⟨by simp; omega, fun v hv => ?_⟩
        have := htv v (by simpa using hv)
        exact ⟨by omega, by omega⟩
      repeat' (first | with_reducible first | refine kI (by kernel_rfl) ?_ | (first | refine kB1 ?_ ?_ | refine kB2 ?_ ?_) <;> intro hp | (first | refine kD1 ?_ ?_ | refine kD2 ?_ ?_ | refine kS1 ?_ ?_ | refine kS2 ?_ ?_) <;> intro hp <;> try simp only [hp] | simp -implicitDefEqProofs (disch := omega) only [go_sem, Nat.reduceAdd, Nat.reduceSub, reduceCtorEq, Nat.reduceLT, Nat.reduceLeDiff, Nat.reduceEqDiff, Nat.reduceMul, Int.reduceToNat, ↓reduceIte, List.take_of_length_le, if_pos, if_neg, List.getElem?_set_self, List.set_set, cnE, cnV, Try.ntmps74, Try.results74,  hC.cn, hki, h0, opQ_none])
      refine InlK_intro rfl rfl can_pick ((isp_pick hS (hC.app _) hb _ (by omega) 4 (by omega)).mono ?_)
      rintro r L1 ⟨ch, rfl, k9, k10, rfl⟩
      have hch : ch = 0 ∨ ch = 1 ∨ (ch = 2 ∨ ch = 3) := by omega
      rcases hch with rfl | rfl | hch
      · repeat' (first | with_reducible first | refine kI (by kernel_rfl) ?_ | (first | refine kB1 ?_ ?_ | refine kB2 ?_ ?_) <;> intro hp | (first | refine kD1 ?_ ?_ | refine kD2 ?_ ?_ | refine kS1 ?_ ?_ | refine kS2 ?_ ?_) <;> intro hp <;> try simp only [hp] | simp -implicitDefEqProofs (disch := omega) only [go_sem, Nat.reduceAdd, Nat.reduceSub, reduceCtorEq, Nat.reduceLT, Nat.reduceLeDiff, Nat.reduceEqDiff, Nat.reduceMul, Int.reduceToNat, ↓reduceIte, List.take_of_length_le, if_pos, if_neg, List.getElem?_set_self, List.set_set, cnE, cnV, Try.ntmps74, Try.results74,  hC.cn, h3, opQ_none])
        refine InlK_intro rfl rfl can_goodView ((hgv (hC.app _) hb _ (by omega)).mono ?_)
        rintro r L1 ⟨v, p2, k1, k2, rfl, k3, k4, rfl⟩
        have hA1 := hA p2 [stB v.st] ((T.map fun v => (2, v)).map viT) c (viS (n + 1) v) (by simp [g2]) (by omega)
        repeat' (first | with_reducible first | refine kI (by kernel_rfl) ?_ | (first | refine kB1 ?_ ?_ | refine kB2 ?_ ?_) <;> intro hp | (first | refine kD1 ?_ ?_ | refine kD2 ?_ ?_ | refine kS1 ?_ ?_ | refine kS2 ?_ ?_) <;> intro hp <;> try simp only [hp] | simp -implicitDefEqProofs (disch := omega) only [go_sem, Nat.reduceAdd, Nat.reduceSub, reduceCtorEq, Nat.reduceLT, Nat.reduceLeDiff, Nat.reduceEqDiff, Nat.reduceMul, Int.reduceToNat, ↓reduceIte, List.take_of_length_le, if_pos, if_neg, List.getElem?_set_self, List.set_set, cnE, cnV, Try.ntmps74, Try.results74,  hC.cn, hA1, hw1, h1, opQ_none])
        refine InlK_intro rfl rfl can_one ((isp_one hS h0 (hC.app _) hb _ (by omega) 2 [nn, nn, nn, nn + 1, 61] (by simp)).mono ?_)
        rintro r L1 ⟨z, rfl, -, rfl⟩
        repeat' (first | with_reducible first | refine kI (by kernel_rfl) ?_ | (first | refine kB1 ?_ ?_ | refine kB2 ?_ ?_) <;> intro hp | (first | refine kD1 ?_ ?_ | refine kD2 ?_ ?_ | refine kS1 ?_ ?_ | refine kS2 ?_ ?_) <;> intro hp <;> try simp only [hp] | simp -implicitDefEqProofs (disch := omega) only [go_sem, Nat.reduceAdd, Nat.reduceSub, reduceCtorEq, Nat.reduceLT, Nat.reduceLeDiff, Nat.reduceEqDiff, Nat.reduceMul, Int.reduceToNat, ↓reduceIte, List.take_of_length_le, if_pos, if_neg, List.getElem?_set_self, List.set_set, cnE, cnV, Try.ntmps74, Try.results74,  hC.cn])
        refine hfin _ (T.map (fun v => (2, v)) ++ [(1, v)]) (((T.map fun v => (2, v)).map viT) ++ [viS (n + 1) v]) (c + 1) _ _ (by omega) (by omega) (by simp [g2]) ⟨by simp; omega, fun u hu => ?_⟩ ?_
        · rw [List.map_append, List.mem_append] at hu
          rcases hu with hu | hu
          · exact hTb.2 _ hu
          · obtain rfl : u = v := by simpa using hu
            exact ⟨by omega, by omega⟩
        · rw [List.map_append, List.map_append, sel3_map]
          simp only [List.map_cons, List.map_nil]
          rw [sel3_vis (gR_ge (by omega)) (by rw [hC.at']; rfl)]
      · repeat' (first | with_reducible first | refine kI (by kernel_rfl) ?_ | (first | refine kB1 ?_ ?_ | refine kB2 ?_ ?_) <;> intro hp | (first | refine kD1 ?_ ?_ | refine kD2 ?_ ?_ | refine kS1 ?_ ?_ | refine kS2 ?_ ?_) <;> intro hp <;> try simp only [hp] | simp -implicitDefEqProofs (disch := omega) only [go_sem, Nat.reduceAdd, Nat.reduceSub, reduceCtorEq, Nat.reduceLT, Nat.reduceLeDiff, Nat.reduceEqDiff, Nat.reduceMul, Int.reduceToNat, ↓reduceIte, List.take_of_length_le, if_pos, if_neg, List.getElem?_set_self, List.set_set, cnE, cnV, Try.ntmps74, Try.results74,  hC.cn, h2, opQ_none])
        refine InlK_intro rfl rfl can_someView ((hsv (hC.app _) hb _ (by omega)).mono ?_)
        rintro r L1 ⟨v, p2, k1, k2, rfl, k3, k4, rfl⟩
        obtain ⟨v0, T', rfl⟩ : ∃ v0 T', T = v0 :: T' := by
          cases T with
          | nil => simp at t3
          | cons v0 T' => exact ⟨v0, T', rfl⟩
        have hcT : T'.length + 1 = c := by rw [g2]; simp
        have hc0' : 0 < c := by omega
        simp only [List.map_cons]
        repeat' (first | with_reducible first | refine kI (by kernel_rfl) ?_ | (first | refine kB1 ?_ ?_ | refine kB2 ?_ ?_) <;> intro hp | (first | refine kD1 ?_ ?_ | refine kD2 ?_ ?_ | refine kS1 ?_ ?_ | refine kS2 ?_ ?_) <;> intro hp <;> try simp only [hp] | simp -implicitDefEqProofs (disch := omega) only [go_sem, Nat.reduceAdd, Nat.reduceSub, reduceCtorEq, Nat.reduceLT, Nat.reduceLeDiff, Nat.reduceEqDiff, Nat.reduceMul, Int.reduceToNat, ↓reduceIte, List.take_of_length_le, if_pos, if_neg, List.getElem?_set_self, List.set_set, cnE, cnV, Try.ntmps74, Try.results74,  hC.cn, hcT, hc0', hw1, h1, opQ_none])
        refine InlK_intro rfl rfl can_one ((isp_one hS h0 (hC.app _) hb _ (by omega) 2 [nn, nn, nn, nn + 1, 61] (by simp)).mono ?_)
        rintro r L1 ⟨z, rfl, -, rfl⟩
        repeat' (first | with_reducible first | refine kI (by kernel_rfl) ?_ | (first | refine kB1 ?_ ?_ | refine kB2 ?_ ?_) <;> intro hp | (first | refine kD1 ?_ ?_ | refine kD2 ?_ ?_ | refine kS1 ?_ ?_ | refine kS2 ?_ ?_) <;> intro hp <;> try simp only [hp] | simp -implicitDefEqProofs (disch := omega) only [go_sem, Nat.reduceAdd, Nat.reduceSub, reduceCtorEq, Nat.reduceLT, Nat.reduceLeDiff, Nat.reduceEqDiff, Nat.reduceMul, Int.reduceToNat, ↓reduceIte, List.take_of_length_le, if_pos, if_neg, List.getElem?_set_self, List.set_set, cnE, cnV, Try.ntmps74, Try.results74,  hC.cn])
        refine hfin _ ((1, v) :: T'.map (fun v => (2, v))) (viT (1, v) :: ((T'.map fun v => (2, v)).map viT)) c _ _ (by omega) (by omega) (by simp [hcT]) ⟨by simp; omega, fun u hu => ?_⟩ ?_
        · rw [List.map_cons] at hu
          rcases List.mem_cons.1 hu with rfl | hu
          · exact ⟨by omega, by omega⟩
          · exact hTb.2 _ (by rw [List.map_cons, List.map_cons]; exact List.mem_cons_of_mem _ hu)
        · rw [List.map_cons, List.map_cons, sel3_map, sel3_vit]
      · have hc0 : (ch == 0) = false := beq_f (by omega)
        have hc1 : (ch == 1) = false := beq_f (by omega)
        repeat' (first | with_reducible first | refine kI (by kernel_rfl) ?_ | (first | refine kB1 ?_ ?_ | refine kB2 ?_ ?_) <;> intro hp | (first | refine kD1 ?_ ?_ | refine kD2 ?_ ?_ | refine kS1 ?_ ?_ | refine kS2 ?_ ?_) <;> intro hp <;> try simp only [hp] | simp -implicitDefEqProofs (disch := omega) only [go_sem, Nat.reduceAdd, Nat.reduceSub, reduceCtorEq, Nat.reduceLT, Nat.reduceLeDiff, Nat.reduceEqDiff, Nat.reduceMul, Int.reduceToNat, ↓reduceIte, List.take_of_length_le, if_pos, if_neg, List.getElem?_set_self, List.set_set, cnE, cnV, Try.ntmps74, Try.results74,  hC.cn, hc0, hc1, hw1, h1, opQ_none])
        refine InlK_intro rfl rfl can_one ((isp_one hS h0 (hC.app _) hb _ (by omega) 2 [nn, nn, nn, nn + 1, 61] (by simp)).mono ?_)
        rintro r L1 ⟨z, rfl, -, rfl⟩
        repeat' (first | with_reducible first | refine kI (by kernel_rfl) ?_ | (first | refine kB1 ?_ ?_ | refine kB2 ?_ ?_) <;> intro hp | (first | refine kD1 ?_ ?_ | refine kD2 ?_ ?_ | refine kS1 ?_ ?_ | refine kS2 ?_ ?_) <;> intro hp <;> try simp only [hp] | simp -implicitDefEqProofs (disch := omega) only [go_sem, Nat.reduceAdd, Nat.reduceSub, reduceCtorEq, Nat.reduceLT, Nat.reduceLeDiff, Nat.reduceEqDiff, Nat.reduceMul, Int.reduceToNat, ↓reduceIte, List.take_of_length_le, if_pos, if_neg, List.getElem?_set_self, List.set_set, cnE, cnV, Try.ntmps74, Try.results74,  hC.cn])
        exact hfin _ (T.map fun v => (2, v)) ((T.map fun v => (2, v)).map viT) c _ _ (by omega) (by omega) (by simp [g2]) hTb (sel3_map _)
def TilO : Prop := ∀ {bs : List UInt8} {b n : Nat} {rL : Int → List Blk} (hC : RC bs b n rL) (hb : bs.length ≤ 2000) (p : Int) (hp : 0 ≤ p ∧ p ≤ 700000000), ISpec Try.prog 74 [.ptr b 1 0 0] (rL p) fun r L' => ∃ (q : List (Nat × Vi)) (z p' : Int), vsB (q.map (·.2)) ∧ r = .tup [.ds 1 (q.map viT), i64 z] ∧ p ≤ p' ∧ p' ≤ p + 500 ∧ L' = rL p'
theorem can_tiling : CanCall Try.prog 74 := ⟨_, Try.func74, rfl, rfl⟩
theorem selC_vit {g : Nat → Option Nat} {L : List Blk} {t : Nat} {q : List (Nat × Vi)} : selC g L (.ds t (q.map viT)) = .ds t (q.map viT) := by
  show AV.ds t ((q.map viT).map (expE (sel3 g L))) = _
  rw [sel3_map]
end Go.Proofs.Ytgpflkmelindfaa
