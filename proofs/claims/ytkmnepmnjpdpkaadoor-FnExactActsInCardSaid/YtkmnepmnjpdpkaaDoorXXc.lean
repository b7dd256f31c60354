/- Contracts of functions that the laws of this seat call. -/
import Derived.Test.YtkmnepmnjpdpkaaDoorXXb
import Derived.Test.YtkmnepmnjpdpkaaDoorX7
set_option linter.all false
namespace Go.Proofs.YtkmnepmnjpdpkaaDoor
open Go Go.Ev Go.RowKit Go.Ev.Enc Go.Pl

def mk1 (k : Int) (a : Ac) : Ac := ⟨k, mks (k + 1) a.n.length⟩
def nx1 (k : Int) (a : Ac) : Int := k + 1 + a.n.length
theorem nx1_mk (k : Int) (a : Ac) : nx1 k (mk1 k a) = nx1 k a := by simp [nx1, mk1, mks_len]
theorem mk1_mk (k : Int) (a : Ac) : mk1 k (mk1 k a) = mk1 k a := by simp [mk1, mks_len]
def mk1P (k : Int) (t : Ac × Nat) : Ac × Nat := (mk1 k t.1, t.2)
def nx1P (k : Int) (t : Ac × Nat) : Int := nx1 k t.1
def aX0 : Ac × Nat := (ac0, 0)
theorem getD_aX {l : List (Ac × Nat)} {i : Nat} (h : i < l.length) : (l.map acE).getD i .any = acE (l.getD i aX0) := by simp [h]
theorem mem_aX {l : List (Ac × Nat)} {i : Nat} (h : i < l.length) : l.getD i aX0 ∈ l := mem_L h
theorem alH_set {M M' : List Blk} {xl : List (Ac × Nat)} {i : Nat} {a : Ac} (hi : i < xl.length) (hn : (xl.map Prod.snd).Nodup) (h : alH M xl) (hM : ∀ q, q ≠ (xl.getD i aX0).2 → q ∈ xl.map Prod.snd → M'[q]? = M[q]?) (hb : M'[(xl.getD i aX0).2]? = some (stB a.n)) : alH M' (xl.set i (a, (xl.getD i aX0).2)) := by
  intro t ht
  obtain ⟨j, hj, rfl⟩ := List.mem_iff_getElem.1 ht
  rw [List.length_set] at hj
  rw [List.getElem_set]
  by_cases e : i = j
  · subst e; rw [if_pos rfl]; exact hb
  · rw [if_neg e]
    have hg : xl.getD i aX0 = xl[i] := by simp [hi]
    have hne : xl[j].2 ≠ (xl.getD i aX0).2 := by
      rw [hg]
      intro h2
      have h3 := (List.getElem_inj (xs := xl.map Prod.snd) (i := j) (j := i) (h₀ := by simpa using hj) (h₁ := by simpa using hi) hn).1 (by simpa using h2)
      exact e h3.symm
    rw [hM _ hne (List.mem_map_of_mem (List.getElem_mem hj))]
    exact h _ (List.getElem_mem hj)
theorem can_markAS : CanCall Tryd.prog 13 := ⟨_, Tryd.func13, rfl, rfl⟩
set_option maxHeartbeats 2000000 in
set_option maxRecDepth 100000 in
theorem isp_markActS {Sg : FuncId → Option (List AV → Option AV)} (hS : Sound Tryd.prog Sg) (hmk : Sg 18 = none) (xl : List (Ac × Nat)) (k : Int) (j : Nat) (L : List Blk) (hj : L[j]? = some ⟨2, xl.map acE⟩) (hx : alH L xl) (hn : (j :: xl.map Prod.snd).Nodup) (hl : xl.length ≤ 1000) (hm : ∀ t ∈ xl, t.1.n.length ≤ 1000) (hk : 0 ≤ k ∧ k ≤ 100000) : ISpec Tryd.prog 13 [.sl j xl.length 0 xl.length xl.length, i64 k] L (fun r L' => r = i64 (nxL nx1P k xl) ∧ L'[j]? = some ⟨2, (mkL mk1P nx1P k xl).map acE⟩ ∧ alH L' (mkL mk1P nx1P k xl) ∧ L'.length = L.length ∧ ∀ q, q ∉ j :: xl.map Prod.snd → L'[q]? = L[q]?) := by
  refine ISpec.intro Tryd.func13 rfl (vc_sound Tryd.pf hS _ _ _ ?_)
  repeat' (first | with_reducible first | refine kI (by kernel_rfl) ?_ | refine kN (by kernel_rfl) ?_ | (first | refine kB1 ?_ ?_ | refine kB2 ?_ ?_) <;> intro hp | (first | refine kD1 ?_ ?_ | refine kD2 ?_ ?_ | refine kS1 ?_ ?_ | refine kS2 ?_ ?_) <;> intro hp <;> try simp only [hp] | simp -implicitDefEqProofs (disch := omega) only [go_sem, Nat.reduceAdd, Nat.reduceSub, reduceCtorEq, Nat.reduceLT, Nat.reduceLeDiff, Nat.reduceEqDiff, Nat.reduceMul, Int.reduceToNat, ↓reduceIte, List.take_of_length_le, if_pos, if_neg, List.getElem?_set_self, List.set_set, getD_exs, evApp_st0, cnE, cnV, Tryd.ntmps13, Tryd.results13])
  refine LoopQ.mix (fun t0 L0 nn ss => ∃ (i : Nat) (X : List Blk) (_ : Unit), (∃ x : Nat → AV, ss = ⟨mixL 0 (.k :: .v (i64 (nxL nx1P k (xl.take i))) :: .k :: .k :: .k :: .v (i64 (i : Nat)) :: .s :: .s :: .s :: .s :: .s :: .s :: .s :: .s :: .s :: .s :: .s :: .s :: .s :: .s :: .s :: .s :: .s :: .s :: .s :: .s :: .k :: []) t0 x, X⟩) ∧ (i ≤ xl.length) ∧ (X[j]? = some ⟨2, (parM mk1P nx1P k i xl).map acE⟩) ∧ (alH X (parM mk1P nx1P k i xl)) ∧ (X.length = L.length) ∧ (∀ q, q ∉ j :: xl.map Prod.snd → X[q]? = L[q]?) ∧ nn = xl.length - i) ?_ ?_
  · exact ⟨_, 0, L, (), mixJ rfl rfl, Nat.zero_le _, hj, hx, rfl, fun _ _ => rfl, rfl⟩
  · rintro I0 hI0 n s ⟨i, X, _, ⟨x, rfl⟩, g1, g2, g3, g4, g5, rfl⟩
    by_cases hi : i < xl.length
    · have hpl := parM_len (m := mk1P) (n := nx1P) (k := k) g1
      have hpi : i < (parM mk1P nx1P k i xl).length := by omega
      have hat := parM_at (m := mk1P) (n := nx1P) (d := aX0) (k := k) hi
      have hset := parM_set (m := mk1P) (n := nx1P) (d := aX0) (k := k) hi
      have hnx := nxL_next (n := nx1P) (d := aX0) (k := k) hi
      have hge := getD_aX hpi
      rw [hat] at hge
      have hml := hm _ (mem_aX hi)
      have hb0 := g3 _ (mem_aX hpi)
      rw [hat] at hb0
      have hnl := nxL_le (n := nx1P) (k := k) (l := xl.take i) (c := 1001) (by
        intro t ht k
        have := hm t (List.mem_of_mem_take ht)
        unfold nx1P nx1
        omega)
      rw [List.length_take] at hnl
      have hne : (xl.getD i aX0).2 ≠ j := fun e => (List.nodup_cons.1 hn).1 (e ▸ List.mem_map_of_mem (mem_aX hi))
      have hjl : j < X.length := (List.getElem?_eq_some_iff.1 g2).1
      have hbl : (xl.getD i aX0).2 < X.length := (List.getElem?_eq_some_iff.1 hb0).1
      have hnd : ((parM mk1P nx1P k i xl).map Prod.snd).Nodup := by rw [parM_keep (m := mk1P) (n := nx1P) (f := Prod.snd) fun _ _ => rfl]; exact (List.nodup_cons.1 hn).2
      have hmem : (xl.getD i aX0).2 ∈ xl.map Prod.snd := List.mem_map_of_mem (mem_aX hi)
      have hst := fun M' a => alH_set (M' := M') (a := a) hpi hnd g3
      rw [hat] at hst
      have hpm : (parM mk1P nx1P k i xl).map Prod.snd = xl.map Prod.snd := parM_keep (m := mk1P) (n := nx1P) (f := Prod.snd) fun _ _ => rfl
      generalize nxL nx1P k (xl.take i) = c at *
      generalize xl.getD i aX0 = t at *
      obtain ⟨⟨tk, tn⟩, tb⟩ := t
      dsimp only at hge hml hb0 hne hbl hmem hset hnx hst
      have hw : IntKind.i64.wrap (c + 1) = c + 1 := wrap_in (by omega)
      have hes : ((parM mk1P nx1P k i xl).map acE).set i (.agg [.int .i64 c, .sl tb tn.length 0 tn.length tn.length]) = ((parM mk1P nx1P k i xl).set i (⟨c, tn⟩, tb)).map acE := by rw [List.map_set]
      have hX1 : (X.set j ⟨2, ((parM mk1P nx1P k i xl).set i ((⟨c, tn⟩ : Ac), tb)).map acE⟩)[j]? = some ⟨2, ((parM mk1P nx1P k i xl).set i ((⟨c, tn⟩ : Ac), tb)).map acE⟩ := List.getElem?_set_self hjl
      have hX2 : (X.set j ⟨2, ((parM mk1P nx1P k i xl).set i ((⟨c, tn⟩ : Ac), tb)).map acE⟩)[tb]? = some (stB tn) := by rw [List.getElem?_set_ne (Ne.symm hne)]; exact hb0
      have hge2 : (((parM mk1P nx1P k i xl).set i ((⟨c, tn⟩ : Ac), tb)).map acE).getD i .any = .agg [.int .i64 c, .sl tb tn.length 0 tn.length tn.length] := by
        rw [getD_aX (by rw [List.length_set]; exact hpi)]
        simp [List.getD_eq_getElem?_getD, List.getElem?_set_self hpi]
      have hln2 : (((parM mk1P nx1P k i xl).set i ((⟨c, tn⟩ : Ac), tb)).map acE).length = xl.length := by rw [List.length_map, List.length_set, hpl]
      have hln1 : ((parM mk1P nx1P k i xl).map acE).length = xl.length := by rw [List.length_map, hpl]
      repeat' (first | with_reducible first | refine kI (by kernel_rfl) ?_ | refine kN (by kernel_rfl) ?_ | (first | refine kB1 ?_ ?_ | refine kB2 ?_ ?_) <;> intro hp | (first | refine kD1 ?_ ?_ | refine kD2 ?_ ?_ | refine kS1 ?_ ?_ | refine kS2 ?_ ?_) <;> intro hp <;> try simp only [hp] | simp -implicitDefEqProofs (disch := omega) only [go_sem, Nat.reduceAdd, Nat.reduceSub, reduceCtorEq, Nat.reduceLT, Nat.reduceLeDiff, Nat.reduceEqDiff, Nat.reduceMul, Int.reduceToNat, ↓reduceIte, List.take_of_length_le, if_pos, if_neg, List.getElem?_set_self, List.set_set, getD_exs, evApp_st0, cnE, cnV, Tryd.ntmps13, Tryd.results13,  g2, hge, hln1, hes, hX1, hge2, hln2, hw, hmk, opQ_none])
      refine InlK_intro rfl rfl can_markI ((isp_markIntS hS tn (c + 1) tb _ hX2 (by omega) (by omega)).mono ?_)
      rintro r L1 ⟨rfl, rfl⟩
      have hqj : ∀ q ∈ xl.map Prod.snd, q ≠ j := fun q hq e => (List.nodup_cons.1 hn).1 (e ▸ hq)
      repeat' (first | with_reducible first | refine kI (by kernel_rfl) ?_ | refine kN (by kernel_rfl) ?_ | (first | refine kB1 ?_ ?_ | refine kB2 ?_ ?_) <;> intro hp | (first | refine kD1 ?_ ?_ | refine kD2 ?_ ?_ | refine kS1 ?_ ?_ | refine kS2 ?_ ?_) <;> intro hp <;> try simp only [hp] | simp -implicitDefEqProofs (disch := omega) only [go_sem, Nat.reduceAdd, Nat.reduceSub, reduceCtorEq, Nat.reduceLT, Nat.reduceLeDiff, Nat.reduceEqDiff, Nat.reduceMul, Int.reduceToNat, ↓reduceIte, List.take_of_length_le, if_pos, if_neg, List.getElem?_set_self, List.set_set, getD_exs, evApp_st0, cnE, cnV, Tryd.ntmps13, Tryd.results13])
      refine ⟨xl.length - (i + 1), by omega, hI0 _ _ ⟨i + 1, _, (), mixJ (by rw [hnx]; rfl) rfl, hi, ?_, ?_, ?_, ?_, rfl⟩⟩
      · rw [List.getElem?_set_ne hne, hX1, ← hset, List.map_set, List.map_set]
        simp [acE, mk1P, mk1, mks_len]
      · rw [← hset]
        refine hst _ _ (fun q h1 h2 => ?_) ?_
        · rw [hpm] at h2
          rw [List.getElem?_set_ne (Ne.symm h1), List.getElem?_set_ne (Ne.symm (hqj q h2))]
        · rw [List.getElem?_set_self (by rw [List.length_set]; exact hbl)]; rfl
      · rw [List.length_set, List.length_set]; exact g4
      · intro q hq
        have h1 : q ≠ j := fun e => hq (by rw [e]; exact List.mem_cons_self)
        have h2 : q ≠ tb := fun e => hq (by rw [e]; exact List.mem_cons_of_mem _ hmem)
        rw [List.getElem?_set_ne (Ne.symm h2), List.getElem?_set_ne (Ne.symm h1)]
        exact g5 q hq
    · obtain rfl : i = xl.length := by omega
      rw [parM_full] at g2 g3
      rw [List.take_length]
      have hln : ((mkL mk1P nx1P k xl).map acE).length = xl.length := by rw [List.length_map, mkL_len]
      repeat' (first | with_reducible first | refine kI (by kernel_rfl) ?_ | refine kN (by kernel_rfl) ?_ | (first | refine kB1 ?_ ?_ | refine kB2 ?_ ?_) <;> intro hp | (first | refine kD1 ?_ ?_ | refine kD2 ?_ ?_ | refine kS1 ?_ ?_ | refine kS2 ?_ ?_) <;> intro hp <;> try simp only [hp] | simp -implicitDefEqProofs (disch := omega) only [go_sem, Nat.reduceAdd, Nat.reduceSub, reduceCtorEq, Nat.reduceLT, Nat.reduceLeDiff, Nat.reduceEqDiff, Nat.reduceMul, Int.reduceToNat, ↓reduceIte, List.take_of_length_le, if_pos, if_neg, List.getElem?_set_self, List.set_set, getD_exs, evApp_st0, cnE, cnV, Tryd.ntmps13, Tryd.results13,  g2, hln])
      exact ⟨g3, g4, g5⟩
def acsM (l : List Ac) : Prop := l.length ≤ 1000 ∧ ∀ i, i < l.length → (l.getD i ac0).n.length ≤ 1000
instance (l : List Ac) : Decidable (acsM l) := by unfold acsM; infer_instance
instance mkdD (k : Int) (l : List Ac) : Decidable (mkdL mk1 nx1 k l) := match l with
  | [] => isTrue trivial
  | a :: l => @instDecidableAnd _ _ _ (mkdD (nx1 k a) l)
def gHeldAs (l : List Ac) (k : Int) : Option Int := gd (acsM l ∧ (0 ≤ k ∧ k ≤ 100000) ∧ mkdL mk1 nx1 k l) (nxL nx1 k l)
theorem gHeldAs_eq {l : List Ac} {k : Int} (h : acsM l ∧ (0 ≤ k ∧ k ≤ 100000) ∧ mkdL mk1 nx1 k l) : gHeldAs l k = some (nxL nx1 k l) := gd_eq h
set_option maxHeartbeats 4000000 in
set_option maxRecDepth 100000 in
theorem spec_heldActS {Sg : FuncId → Option (List AV → Option AV)} (hS : Sound Tryd.prog Sg) (hc : Sg 19 = some (F2 gHeldI)) : ∀ a r, F2 gHeldAs a = some r → CSpec Tryd.prog 14 a r := by
  refine F2_spec ?_
  intro l k r hr
  obtain ⟨⟨⟨b1, b2⟩, hk, hm⟩, rfl⟩ := gd_some hr
  refine CSpec.intro Tryd.func14 rfl (own _) (vc3_sound Tryd.pf hS hS _ _ _ ?_)
  repeat' (first | with_reducible first | refine kI (by kernel_rfl) ?_ | refine kN (by kernel_rfl) ?_ | (first | refine kB1 ?_ ?_ | refine kB2 ?_ ?_) <;> intro hp | (first | refine kD1 ?_ ?_ | refine kD2 ?_ ?_ | refine kS1 ?_ ?_ | refine kS2 ?_ ?_) <;> intro hp <;> try simp only [hp] | simp -implicitDefEqProofs (disch := omega) only [go_sem, Nat.reduceAdd, Nat.reduceSub, reduceCtorEq, Nat.reduceLT, Nat.reduceLeDiff, Nat.reduceEqDiff, Nat.reduceMul, Int.reduceToNat, ↓reduceIte, List.take_of_length_le, if_pos, if_neg, List.getElem?_set_self, List.set_set, getD_exs, evApp_st0, cnE, cnV, Tryd.ntmps14, Tryd.results14])
  refine LoopQ.mix (fun t0 L0 nn ss => ∃ (i : Nat) (_ : Unit), (∃ x : Nat → AV, ss = ⟨mixL 0 (.k :: .v (i64 (nxL nx1 k (l.take i))) :: .k :: .k :: .s :: .v (i64 (i : Nat)) :: .s :: .s :: .s :: .s :: .s :: .s :: .s :: .s :: .s :: .s :: .s :: .s :: .s :: .s :: .s :: .s :: .s :: .s :: .s :: .s :: .s :: .s :: .s :: .s :: .k :: []) t0 x, L0⟩) ∧ (i ≤ l.length) ∧ nn = l.length - i) ?_ ?_
  · exact ⟨_, 0, (), mixI rfl, Nat.zero_le _, rfl⟩
  · rintro I0 hI0 n s ⟨i, _, ⟨x, rfl⟩, g1, rfl⟩
    by_cases hi : i < l.length
    · have hii : (i : Int) < (l.length : Int) := by omega
      have hga := getD_acs (t := 0) hi
      have hat := mkdL_at (d := ac0) hm hi
      have hnx := nxL_next (n := nx1) (d := ac0) (k := k) hi
      have hlm := b2 i hi
      have hnl := nxL_le (n := nx1) (k := k) (l := l.take i) (c := 1001) (by
        intro a ha k
        obtain ⟨j, hj, rfl⟩ := List.mem_iff_getElem.1 (List.mem_of_mem_take ha)
        have := b2 j hj
        rw [show l.getD j ac0 = l[j] by simp [hj]] at this
        unfold nx1
        omega)
      rw [List.length_take] at hnl
      generalize nxL nx1 k (l.take i) = c at *
      generalize l.getD i ac0 = a at *
      obtain ⟨ak, an⟩ := a
      simp only [mk1, Ac.mk.injEq] at hat
      obtain ⟨rfl, hat⟩ := hat
      dsimp only at hga hlm
      have q1 := gHeldI_eq (l := an) (k := c + 1) ⟨by omega, by omega, by omega, hat.symm⟩
      have hw : IntKind.i64.wrap (c + 1) = c + 1 := wrap_in (by omega)
      have q2 : ¬ (c + 1 + (an.length : Int) < 0) := by omega
      repeat' (first | with_reducible first | refine kI (by kernel_rfl) ?_ | refine kN (by kernel_rfl) ?_ | (first | refine kB1 ?_ ?_ | refine kB2 ?_ ?_) <;> intro hp | (first | refine kD1 ?_ ?_ | refine kD2 ?_ ?_ | refine kS1 ?_ ?_ | refine kS2 ?_ ?_) <;> intro hp <;> try simp only [hp] | simp -implicitDefEqProofs (disch := omega) only [go_sem, Nat.reduceAdd, Nat.reduceSub, reduceCtorEq, Nat.reduceLT, Nat.reduceLeDiff, Nat.reduceEqDiff, Nat.reduceMul, Int.reduceToNat, ↓reduceIte, List.take_of_length_le, if_pos, if_neg, List.getElem?_set_self, List.set_set, getD_exs, evApp_st0, cnE, cnV, Tryd.ntmps14, Tryd.results14,  hii, hga, hw, hc, q1, q2])
      exact ⟨l.length - (i + 1), by omega, hI0 _ _ ⟨i + 1, (), mixI (by rw [hnx]; rfl), hi, rfl⟩⟩
    · obtain rfl : i = l.length := by omega
      rw [List.take_length]
      repeat' (first | with_reducible first | refine kI (by kernel_rfl) ?_ | refine kN (by kernel_rfl) ?_ | (first | refine kB1 ?_ ?_ | refine kB2 ?_ ?_) <;> intro hp | (first | refine kD1 ?_ ?_ | refine kD2 ?_ ?_ | refine kS1 ?_ ?_ | refine kS2 ?_ ?_) <;> intro hp <;> try simp only [hp] | simp -implicitDefEqProofs (disch := omega) only [go_sem, Nat.reduceAdd, Nat.reduceSub, reduceCtorEq, Nat.reduceLT, Nat.reduceLeDiff, Nat.reduceEqDiff, Nat.reduceMul, Int.reduceToNat, ↓reduceIte, List.take_of_length_le, if_pos, if_neg, List.getElem?_set_self, List.set_set, getD_exs, evApp_st0, cnE, cnV, Tryd.ntmps14, Tryd.results14])
      try rfl
set_option maxHeartbeats 4000000 in
set_option maxRecDepth 100000 in
theorem spec_eqActS {Sg : FuncId → Option (List AV → Option AV)} (hS : Sound Tryd.prog Sg) (he : Sg 7 = some (F2 gEqX)) : ∀ a r, F2 gEqAs a = some r → CSpec Tryd.prog 12 a r := by
  refine F2_spec ?_
  intro a b r hr
  obtain ⟨⟨⟨a1, a2⟩, b1, b2⟩, rfl⟩ := gd_some hr
  refine CSpec.intro Tryd.func12 rfl (own _) (vc3_sound Tryd.pf hS hS _ _ _ ?_)
  by_cases e2 : a.length = b.length
  · have e2' : ((a.length : Int) == (b.length : Int)) = true := beq_t (by omega)
    repeat' (first | with_reducible first | refine kI (by kernel_rfl) ?_ | refine kN (by kernel_rfl) ?_ | (first | refine kB1 ?_ ?_ | refine kB2 ?_ ?_) <;> intro hp | (first | refine kD1 ?_ ?_ | refine kD2 ?_ ?_ | refine kS1 ?_ ?_ | refine kS2 ?_ ?_) <;> intro hp <;> try simp only [hp] | simp -implicitDefEqProofs (disch := omega) only [go_sem, Nat.reduceAdd, Nat.reduceSub, reduceCtorEq, Nat.reduceLT, Nat.reduceLeDiff, Nat.reduceEqDiff, Nat.reduceMul, Int.reduceToNat, ↓reduceIte, List.take_of_length_le, if_pos, if_neg, List.getElem?_set_self, List.set_set, getD_exs, evApp_st0, cnE, cnV, Tryd.ntmps12, Tryd.results12,  e2'])
    refine LoopQ.mix (fun t0 L0 nn ss => ∃ (i : Nat) (_ : Unit), (∃ x : Nat → AV, ss = ⟨mixL 0 (.k :: .k :: .k :: .k :: .s :: .v (i64 (i : Nat)) :: .k :: .k :: .k :: .k :: .k :: .s :: .s :: .s :: .s :: .s :: .s :: .s :: .s :: .s :: .s :: .s :: .s :: .s :: .s :: .s :: .s :: []) t0 x, L0⟩) ∧ (i ≤ a.length) ∧ (∀ j, j < i → a.getD j ac0 = b.getD j ac0) ∧ nn = a.length - i) ?_ ?_
    · exact ⟨_, ⟨0, (), mixI rfl, Nat.zero_le _, fun j hj => absurd hj (Nat.not_lt_zero _), rfl⟩⟩
    · rintro I0 hI0 nn ss ⟨i, _, ⟨y, rfl⟩, g1, g2, rfl⟩
      by_cases hi : i < a.length
      · have hii : (i : Int) < (a.length : Int) := by omega
        have hj : i < b.length := by omega
        have hga := getD_acs (t := 0) hi
        have hgb := getD_acs (t := 0) hj
        have q := gEqX_eq (a2 i hi) (b2 i hj)
        have hnx := @acs_ne a b i
        have hfx : ∀ (p : a.getD i ac0 = b.getD i ac0) j, j < i + 1 → a.getD j ac0 = b.getD j ac0 := fun p j hj => if e : j = i then by rw [e]; exact p else g2 j (by omega)
        generalize a.getD i ac0 = x at *
        generalize b.getD i ac0 = z at *
        by_cases c : x = z
        · rw [decide_eq_true c] at q
          have hf := hfx c
          subst c
          repeat' (first | with_reducible first | refine kI (by kernel_rfl) ?_ | refine kN (by kernel_rfl) ?_ | (first | refine kB1 ?_ ?_ | refine kB2 ?_ ?_) <;> intro hp | (first | refine kD1 ?_ ?_ | refine kD2 ?_ ?_ | refine kS1 ?_ ?_ | refine kS2 ?_ ?_) <;> intro hp <;> try simp only [hp] | simp -implicitDefEqProofs (disch := omega) only [go_sem, Nat.reduceAdd, Nat.reduceSub, reduceCtorEq, Nat.reduceLT, Nat.reduceLeDiff, Nat.reduceEqDiff, Nat.reduceMul, Int.reduceToNat, ↓reduceIte, List.take_of_length_le, if_pos, if_neg, List.getElem?_set_self, List.set_set, getD_exs, evApp_st0, cnE, cnV, Tryd.ntmps12, Tryd.results12,  hii, hga, hgb, he, q])
          exact ⟨a.length - (i + 1), by omega, hI0 _ _ ⟨i + 1, (), mixI rfl, hi, hf, rfl⟩⟩
        · rw [decide_eq_false c] at q
          rw [hnx c]
          repeat' (first | with_reducible first | refine kI (by kernel_rfl) ?_ | refine kN (by kernel_rfl) ?_ | (first | refine kB1 ?_ ?_ | refine kB2 ?_ ?_) <;> intro hp | (first | refine kD1 ?_ ?_ | refine kD2 ?_ ?_ | refine kS1 ?_ ?_ | refine kS2 ?_ ?_) <;> intro hp <;> try simp only [hp] | simp -implicitDefEqProofs (disch := omega) only [go_sem, Nat.reduceAdd, Nat.reduceSub, reduceCtorEq, Nat.reduceLT, Nat.reduceLeDiff, Nat.reduceEqDiff, Nat.reduceMul, Int.reduceToNat, ↓reduceIte, List.take_of_length_le, if_pos, if_neg, List.getElem?_set_self, List.set_set, getD_exs, evApp_st0, cnE, cnV, Tryd.ntmps12, Tryd.results12,  hii, hga, hgb, he, q])
          try rfl
      · obtain rfl : i = a.length := by omega
        rw [acs_same e2 g2]
        repeat' (first | with_reducible first | refine kI (by kernel_rfl) ?_ | refine kN (by kernel_rfl) ?_ | (first | refine kB1 ?_ ?_ | refine kB2 ?_ ?_) <;> intro hp | (first | refine kD1 ?_ ?_ | refine kD2 ?_ ?_ | refine kS1 ?_ ?_ | refine kS2 ?_ ?_) <;> intro hp <;> try simp only [hp] | simp -implicitDefEqProofs (disch := omega) only [go_sem, Nat.reduceAdd, Nat.reduceSub, reduceCtorEq, Nat.reduceLT, Nat.reduceLeDiff, Nat.reduceEqDiff, Nat.reduceMul, Int.reduceToNat, ↓reduceIte, List.take_of_length_le, if_pos, if_neg, List.getElem?_set_self, List.set_set, getD_exs, evApp_st0, cnE, cnV, Tryd.ntmps12, Tryd.results12])
        try rfl
  · have e2' : ((a.length : Int) == (b.length : Int)) = false := beq_f (by omega)
    rw [decide_eq_false (fun h => e2 (by rw [h]))]
    repeat' (first | with_reducible first | refine kI (by kernel_rfl) ?_ | refine kN (by kernel_rfl) ?_ | (first | refine kB1 ?_ ?_ | refine kB2 ?_ ?_) <;> intro hp | (first | refine kD1 ?_ ?_ | refine kD2 ?_ ?_ | refine kS1 ?_ ?_ | refine kS2 ?_ ?_) <;> intro hp <;> try simp only [hp] | simp -implicitDefEqProofs (disch := omega) only [go_sem, Nat.reduceAdd, Nat.reduceSub, reduceCtorEq, Nat.reduceLT, Nat.reduceLeDiff, Nat.reduceEqDiff, Nat.reduceMul, Int.reduceToNat, ↓reduceIte, List.take_of_length_le, if_pos, if_neg, List.getElem?_set_self, List.set_set, getD_exs, evApp_st0, cnE, cnV, Tryd.ntmps12, Tryd.results12,  e2'])
    try rfl
end Go.Proofs.YtkmnepmnjpdpkaaDoor
