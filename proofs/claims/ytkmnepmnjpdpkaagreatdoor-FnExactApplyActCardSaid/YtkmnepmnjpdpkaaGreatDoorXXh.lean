/- Contracts of functions that the laws of this seat call. -/
import Derived.Test.YtkmnepmnjpdpkaaGreatDoorXXf
set_option linter.all false
namespace Go.Proofs.YtkmnepmnjpdpkaaGreatDoor
open Go Go.Ev Go.RowKit Go.Ev.Enc Go.Pl

def oE (k : Int) : Bool := k.tmod 3 == 0
def me1 (k : Int) (x : Ex) : Ex := ⟨k, ⟨k + 1, mks (k + 2) x.v.sh.length, mks (k + 2 + x.v.sh.length) x.v.st.length⟩, oE (k + 2 + x.v.sh.length + x.v.st.length)⟩
def ne1 (k : Int) (x : Ex) : Int := k + 2 + x.v.sh.length + x.v.st.length + 1
theorem ne1_mk (k : Int) (x : Ex) : ne1 k (me1 k x) = ne1 k x := by simp [ne1, me1, mks_len]
theorem me1_mk (k : Int) (x : Ex) : me1 k (me1 k x) = me1 k x := by simp [me1, mks_len]
def me1P (k : Int) (t : Px) : Px := ⟨me1 k t.x, t.a, t.c⟩
def ne1P (k : Int) (t : Px) : Int := ne1 k t.x
theorem pxI_mk (k : Int) (l : List Px) : pxI (mkL me1P ne1P k l) = pxI l := pxI_same (mkL_keep (m := me1P) (n := ne1P) (f := fun t : Px => (t.a, t.c)) (fun _ _ => rfl) k l)
theorem pxI_par (k : Int) (i : Nat) (l : List Px) : pxI (parM me1P ne1P k i l) = pxI l := pxI_same (parM_keep (m := me1P) (n := ne1P) (f := fun t : Px => (t.a, t.c)) fun _ _ => rfl)
theorem pxI_ne {xl : List Px} (hn : (pxI xl).Nodup) {i k : Nat} (hi : i < xl.length) (hk : k < xl.length) (h : k ≠ i) : ∀ b, (b = xl[k].a ∨ b = xl[k].c) → b ≠ xl[i].a ∧ b ≠ xl[i].c := by
  have hp := (List.pairwise_flatMap.1 hn).2
  rw [List.pairwise_iff_getElem] at hp
  intro b hb
  rcases Nat.lt_or_gt_of_ne h with h | h
  · have := hp k i hk hi h b (by simpa using hb)
    exact ⟨this _ (by simp), this _ (by simp)⟩
  · have := fun x hx => hp i k hi hk h x hx b (by simpa using hb)
    exact ⟨fun e => this _ (by simp) e.symm, fun e => this xl[i].c (by simp) e.symm⟩
theorem pxH_set {M M' : List Blk} {xl : List Px} {i : Nat} {t' : Px} (hi : i < xl.length) (hn : (pxI xl).Nodup) (h : pxH M xl) (ha : t'.a = (xl.getD i px0).a) (hc : t'.c = (xl.getD i px0).c) (hM : ∀ q, q ≠ t'.a → q ≠ t'.c → q ∈ pxI xl → M'[q]? = M[q]?) (h1 : M'[t'.a]? = some (stB t'.x.v.sh)) (h2 : M'[t'.c]? = some (stB t'.x.v.st)) : pxH M' (xl.set i t') := by
  intro t ht
  obtain ⟨j, hj, rfl⟩ := List.mem_iff_getElem.1 ht
  rw [List.length_set] at hj
  rw [List.getElem_set]
  by_cases e : i = j
  · subst e; rw [if_pos rfl]; exact ⟨h1, h2⟩
  · rw [if_neg e]
    have hg : xl.getD i px0 = xl[i] := by simp [hi]
    rw [hg] at ha hc
    have hne := pxI_ne hn hi hj (Ne.symm e)
    have hm := h _ (List.getElem_mem hj)
    refine ⟨?_, ?_⟩
    · have := hne _ (.inl rfl)
      rw [hM _ (by rw [ha]; exact this.1) (by rw [hc]; exact this.2) (mem_pxI.2 ⟨_, List.getElem_mem hj, .inl rfl⟩)]; exact hm.1
    · have := hne _ (.inr rfl)
      rw [hM _ (by rw [ha]; exact this.1) (by rw [hc]; exact this.2) (mem_pxI.2 ⟨_, List.getElem_mem hj, .inr rfl⟩)]; exact hm.2
theorem ac_ne {xl : List Px} (hn : (pxI xl).Nodup) {i : Nat} (hi : i < xl.length) : (xl.getD i px0).a ≠ (xl.getD i px0).c := by
  have hp := (List.pairwise_flatMap.1 hn).1 _ (mem_L (d := px0) hi)
  simpa using hp
theorem getD_at {l : List AV} {i : Nat} {a : AV} (h : i < l.length) : (l.set i a).getD i .any = a := by
  simp [List.getD_eq_getElem?_getD, List.getElem?_set_self h]
theorem wrap_mkB {k : Int} {i : Nat} (hk : 0 ≤ k ∧ k ≤ 9000000000000000) (hi : i < 4294967296) : IntKind.i64.wrap (k + (i : Int) + 1) = k + ((i + 1 : Nat) : Int) := by
  rw [wrap_in (by omega)]; omega
set_option maxHeartbeats 2000000 in
set_option maxRecDepth 100000 in
theorem isp_markIntB {Sg : FuncId → Option (List AV → Option AV)} (hS : Sound Tryz.prog Sg) (l : List Int) (k : Int) (b : Nat) (L : List Blk) (hb : L[b]? = some ⟨1, l.map fun n => .int .i64 n⟩) (hl : l.length < 4294967296) (hk : 0 ≤ k ∧ k ≤ 9000000000000000) : ISpec Tryz.prog 81 [.sl b l.length 0 l.length l.length, i64 k] L (fun r L' => r = i64 (k + l.length) ∧ L' = L.set b ⟨1, (mks k l.length).map fun n => .int .i64 n⟩) := by
  refine ISpec.intro Tryz.func81 rfl (vc_sound Tryz.pf hS _ _ _ ?_)
  have hbl : b < L.length := (List.getElem?_eq_some_iff.1 hb).1
  repeat' (first | with_reducible first | refine kI (by kernel_rfl) ?_ | refine kN (by kernel_rfl) ?_ | simp -implicitDefEqProofs (disch := omega) only [go_sem, Nat.reduceAdd, Nat.reduceSub, reduceCtorEq, Nat.reduceLT, Nat.reduceLeDiff, Nat.reduceEqDiff, ↓reduceIte, List.take_of_length_le, if_pos, if_neg, getD_exs, cnE, cnV, Tryz.ntmps81, Tryz.results81])
  refine LoopQ.mix (fun t0 L0 nn ss => ∃ (i : Nat) (_ : Unit), (∃ x : Nat → AV, ss = ⟨mixL 0 (.k :: .v (i64 (k + (i : Nat))) :: .k :: .k :: .k :: .v (i64 (i : Nat)) :: .s :: .s :: .s :: .s :: .s :: .s :: .s :: .s :: .s :: .s :: .s :: .s :: .k :: []) t0 x, L.set b ⟨1, (part k i l).map fun n => .int .i64 n⟩⟩) ∧ (i ≤ l.length) ∧ nn = l.length - i) ?_ ?_
  · exact ⟨_, 0, (), mixJ (by rw [show k + ((0 : Nat) : Int) = k from by omega]; rfl) (by rw [part_zero]; exact (set_same hb).symm), Nat.zero_le _, rfl⟩
  · rintro I0 hI0 n s ⟨i, _, ⟨x, rfl⟩, h1, rfl⟩
    have hpl := part_len (k := k) h1
    have e1 : ∀ K : Blk, (L.set b K)[b]? = some K := fun K => List.getElem?_set_self hbl
    by_cases hlt : i < l.length
    · have hps := part_set (k := k) hlt
      have hw := wrap_mkB hk (show i < 4294967296 by omega)
      repeat' (first | with_reducible first | refine kI (by kernel_rfl) ?_ | refine kN (by kernel_rfl) ?_ | simp -implicitDefEqProofs (disch := omega) only [go_sem, Nat.reduceAdd, Nat.reduceSub, reduceCtorEq, Nat.reduceLT, Nat.reduceLeDiff, Nat.reduceEqDiff, ↓reduceIte, List.take_of_length_le, if_pos, if_neg, getD_exs, cnE, cnV, Tryz.ntmps81, Tryz.results81,  hpl, hps, hw, e1, List.set_set])
      exact ⟨l.length - (i + 1), by omega, hI0 _ _ ⟨i + 1, (), mixI rfl, hlt, rfl⟩⟩
    · obtain rfl : i = l.length := by omega
      repeat' (first | with_reducible first | refine kI (by kernel_rfl) ?_ | refine kN (by kernel_rfl) ?_ | simp -implicitDefEqProofs (disch := omega) only [go_sem, Nat.reduceAdd, Nat.reduceSub, reduceCtorEq, Nat.reduceLT, Nat.reduceLeDiff, Nat.reduceEqDiff, ↓reduceIte, List.take_of_length_le, if_pos, if_neg, getD_exs, cnE, cnV, Tryz.ntmps81, Tryz.results81,  hpl, part_full, mks_len, e1])
set_option maxHeartbeats 2000000 in
set_option maxRecDepth 100000 in
theorem isp_markExportS {Sg : FuncId → Option (List AV → Option AV)} (hS : Sound Tryz.prog Sg) (hmk : Sg 81 = none) (xl : List Px) (k : Int) (j : Nat) (L : List Blk) (hj : L[j]? = some ⟨5, xl.map pxE⟩) (hx : pxH L xl) (hn : (j :: pxI xl).Nodup) (hl : xl.length ≤ 1048576) (hm : ∀ t ∈ xl, t.x.v.sh.length ≤ 1048576 ∧ t.x.v.st.length ≤ 1048576) (hk : 0 ≤ k ∧ k ≤ 100000000) : ISpec Tryz.prog 82 [.sl j xl.length 0 xl.length xl.length, i64 k] L (fun r L' => r = i64 (nxL ne1P k xl) ∧ L'[j]? = some ⟨5, (mkL me1P ne1P k xl).map pxE⟩ ∧ pxH L' (mkL me1P ne1P k xl) ∧ L'.length = L.length ∧ ∀ q, q ∉ j :: pxI xl → L'[q]? = L[q]?) := by
  refine ISpec.intro Tryz.func82 rfl (vc_sound Tryz.pf hS _ _ _ ?_)
  obtain ⟨hnj, hni⟩ := List.nodup_cons.1 hn
  repeat' (first | with_reducible first | refine kI (by kernel_rfl) ?_ | refine kN (by kernel_rfl) ?_ | simp -implicitDefEqProofs (disch := omega) only [go_sem, Nat.reduceAdd, Nat.reduceSub, reduceCtorEq, Nat.reduceLT, Nat.reduceLeDiff, Nat.reduceEqDiff, ↓reduceIte, List.take_of_length_le, if_pos, if_neg, getD_exs, cnE, cnV, Tryz.ntmps82, Tryz.results82])
  refine LoopQ.mix (fun t0 L0 nn ss => ∃ (i : Nat) (X : List Blk) (_ : Unit), (∃ x : Nat → AV, ss = ⟨mixL 0 (.k :: .v (i64 (nxL ne1P k (xl.take i))) :: .k :: .k :: .k :: .v (i64 (i : Nat)) :: .s :: .s :: .s :: .s :: .s :: .s :: .s :: .s :: .s :: .s :: .s :: .s :: .s :: .s :: .s :: .s :: .s :: .s :: .s :: .s :: .s :: .s :: .s :: .s :: .s :: .s :: .s :: .s :: .s :: .s :: .s :: .s :: .s :: .s :: .s :: .s :: .s :: .s :: .s :: .s :: .s :: .s :: .s :: .s :: .s :: .s :: .k :: []) t0 x, X⟩) ∧ (i ≤ xl.length) ∧ (X[j]? = some ⟨5, (parM me1P ne1P k i xl).map pxE⟩) ∧ (pxH X (parM me1P ne1P k i xl)) ∧ (X.length = L.length) ∧ (∀ q, q ∉ j :: pxI xl → X[q]? = L[q]?) ∧ nn = xl.length - i) ?_ ?_
  · exact ⟨_, 0, L, (), mixJ rfl rfl, Nat.zero_le _, hj, hx, rfl, fun _ _ => rfl, rfl⟩
  · rintro I0 hI0 n s ⟨i, X, _, ⟨x, rfl⟩, g1, g2, g3, g4, g5, rfl⟩
    by_cases hi : i < xl.length
    · have hpl := parM_len (m := me1P) (n := ne1P) (k := k) g1
      have hpi : i < (parM me1P ne1P k i xl).length := by omega
      have hat := parM_at (m := me1P) (n := ne1P) (d := px0) (k := k) hi
      have hset := parM_set (m := me1P) (n := ne1P) (d := px0) (k := k) hi
      have hnx := nxL_next (n := ne1P) (d := px0) (k := k) hi
      have hge := getD_px hpi
      rw [hat] at hge
      have hml := hm _ (mem_L (d := px0) hi)
      have hb0 := g3 _ (mem_L (d := px0) hpi)
      rw [hat] at hb0
      have hnl := nxL_le (n := ne1P) (k := k) (l := xl.take i) (c := 2097155) (by
        intro t ht k
        have := hm t (List.mem_of_mem_take ht)
        unfold ne1P ne1
        omega)
      rw [List.length_take] at hnl
      have hpI := pxI_par k i xl
      have hac := ac_ne hni hi
      have hia : (xl.getD i px0).a ∈ pxI xl := mem_pxI.2 ⟨_, mem_L hi, .inl rfl⟩
      have hic : (xl.getD i px0).c ∈ pxI xl := mem_pxI.2 ⟨_, mem_L hi, .inr rfl⟩
      have hst := fun M' t' => pxH_set (M' := M') (t' := t') hpi (by rw [hpI]; exact hni) g3
      rw [hat, hpI] at hst
      have hjl : j < X.length := (List.getElem?_eq_some_iff.1 g2).1
      have hel : ((parM me1P ne1P k i xl).map pxE).length = xl.length := by rw [List.length_map, hpl]
      generalize nxL ne1P k (xl.take i) = c at *
      generalize xl.getD i px0 = t at *
      obtain ⟨⟨tp, ⟨tb, tsh, tst⟩, to⟩, ta, tc⟩ := t
      dsimp only at hge hml hb0 hac hia hic
      have hne1 : ta ≠ j := fun e => hnj (e ▸ hia)
      have hne2 : tc ≠ j := fun e => hnj (e ▸ hic)
      have hw1 : IntKind.i64.wrap (c + 1) = c + 1 := wrap_in (by omega)
      have hw2 : IntKind.i64.wrap (c + 1 + 1) = c + 2 := by rw [wrap_in (by omega)]; omega
      have hfin : (parM me1P ne1P k (i + 1) xl).map pxE = ((parM me1P ne1P k i xl).map pxE).set i (pxE (me1P c ⟨⟨tp, ⟨tb, tsh, tst⟩, to⟩, ta, tc⟩)) := by rw [← hset, List.map_set]
      obtain ⟨E0, hE0⟩ : ∃ E0, (parM me1P ne1P k i xl).map pxE = E0 := ⟨_, rfl⟩
      rw [hE0] at hge hel hfin g2
      have hi0 : i < E0.length := by omega
      obtain ⟨E1, hs1⟩ : ∃ E1, E0.set i (.agg [.int .i64 c, .int .i64 tb, .sl ta tsh.length 0 tsh.length tsh.length, .sl tc tst.length 0 tst.length tst.length, .bool to]) = E1 := ⟨_, rfl⟩
      have hg1 : E1.getD i .any = .agg [.int .i64 c, .int .i64 tb, .sl ta tsh.length 0 tsh.length tsh.length, .sl tc tst.length 0 tst.length tst.length, .bool to] := by rw [← hs1]; exact getD_at hi0
      have hl1 : E1.length = xl.length := by rw [← hs1, List.length_set, hel]
      obtain ⟨E2, hs2⟩ : ∃ E2, E1.set i (.agg [.int .i64 c, .int .i64 (c + 1), .sl ta tsh.length 0 tsh.length tsh.length, .sl tc tst.length 0 tst.length tst.length, .bool to]) = E2 := ⟨_, rfl⟩
      have hg2 : E2.getD i .any = .agg [.int .i64 c, .int .i64 (c + 1), .sl ta tsh.length 0 tsh.length tsh.length, .sl tc tst.length 0 tst.length tst.length, .bool to] := by rw [← hs2]; exact getD_at (by omega)
      have hl2 : E2.length = xl.length := by rw [← hs2, List.length_set, hl1]
      have hs3 : E2.set i (.agg [.int .i64 c, .int .i64 (c + 1), .sl ta tsh.length 0 tsh.length tsh.length, .sl tc tst.length 0 tst.length tst.length, .bool (oE (c + 2 + tsh.length + tst.length))]) = (parM me1P ne1P k (i + 1) xl).map pxE := by
        rw [hfin, ← hs2, ← hs1, List.set_set, List.set_set]
        simp [pxE, me1P, me1, mks_len]
      obtain ⟨X1, hX1⟩ : ∃ X1, X.set j ⟨5, E1⟩ = X1 := ⟨_, rfl⟩
      have x1j : X1[j]? = some ⟨5, E1⟩ := by rw [← hX1]; exact List.getElem?_set_self hjl
      obtain ⟨X2, hX2⟩ : ∃ X2, X1.set j ⟨5, E2⟩ = X2 := ⟨_, rfl⟩
      have hX2' : X2 = X.set j ⟨5, E2⟩ := by rw [← hX2, ← hX1, List.set_set]
      have x2j : X2[j]? = some ⟨5, E2⟩ := by rw [hX2']; exact List.getElem?_set_self hjl
      have x2a : X2[ta]? = some (stB tsh) := by rw [hX2', List.getElem?_set_ne (Ne.symm hne1)]; exact hb0.1
      have x2c : X2[tc]? = some (stB tst) := by rw [hX2', List.getElem?_set_ne (Ne.symm hne2)]; exact hb0.2
      have x2l : X2.length = X.length := by rw [hX2', List.length_set]
      repeat' (first | with_reducible first | refine kI (by kernel_rfl) ?_ | refine kN (by kernel_rfl) ?_ | simp -implicitDefEqProofs (disch := omega) only [go_sem, Nat.reduceAdd, Nat.reduceSub, reduceCtorEq, Nat.reduceLT, Nat.reduceLeDiff, Nat.reduceEqDiff, ↓reduceIte, List.take_of_length_le, if_pos, if_neg, getD_exs, cnE, cnV, Tryz.ntmps82, Tryz.results82,  g2, hge, hel, hs1, hX1, x1j, hg1, hl1, hs2, hX2, x2j, hg2, hl2, hw1, hw2, hmk, opQ_none])
      refine InlK_intro rfl rfl can_markI ((isp_markIntB hS tsh (c + 2) ta _ x2a (by omega) (by omega)).mono ?_)
      rintro r L1 ⟨rfl, rfl⟩
      obtain ⟨X3, hX3⟩ : ∃ X3, X2.set ta ⟨1, (mks (c + 2) tsh.length).map fun n => .int .i64 n⟩ = X3 := ⟨_, rfl⟩
      have x3j : X3[j]? = some ⟨5, E2⟩ := by rw [← hX3, List.getElem?_set_ne hne1]; exact x2j
      have x3c : X3[tc]? = some (stB tst) := by rw [← hX3, List.getElem?_set_ne hac]; exact x2c
      rw [hX3]
      repeat' (first | with_reducible first | refine kI (by kernel_rfl) ?_ | refine kN (by kernel_rfl) ?_ | simp -implicitDefEqProofs (disch := omega) only [go_sem, Nat.reduceAdd, Nat.reduceSub, reduceCtorEq, Nat.reduceLT, Nat.reduceLeDiff, Nat.reduceEqDiff, ↓reduceIte, List.take_of_length_le, if_pos, if_neg, getD_exs, cnE, cnV, Tryz.ntmps82, Tryz.results82,  x3j, hg2, hl2, hmk, opQ_none])
      refine InlK_intro rfl rfl can_markI ((isp_markIntB hS tst (c + 2 + tsh.length) tc _ x3c (by omega) (by omega)).mono ?_)
      rintro r L1 ⟨rfl, rfl⟩
      obtain ⟨X4, hX4⟩ : ∃ X4, X3.set tc ⟨1, (mks (c + 2 + tsh.length) tst.length).map fun n => .int .i64 n⟩ = X4 := ⟨_, rfl⟩
      have x4j : X4[j]? = some ⟨5, E2⟩ := by rw [← hX4, List.getElem?_set_ne hne2]; exact x3j
      rw [hX4]
      have ho : ((c + 2 + (tsh.length : Int) + tst.length).tmod 3 == 0) = oE (c + 2 + tsh.length + tst.length) := rfl
      have hw3 : IntKind.i64.wrap (c + 2 + (tsh.length : Int) + tst.length + 1) = c + 2 + (tsh.length : Int) + tst.length + 1 := wrap_in (by omega)
      repeat' (first | with_reducible first | refine kI (by kernel_rfl) ?_ | refine kN (by kernel_rfl) ?_ | simp -implicitDefEqProofs (disch := omega) only [go_sem, Nat.reduceAdd, Nat.reduceSub, reduceCtorEq, Nat.reduceLT, Nat.reduceLeDiff, Nat.reduceEqDiff, ↓reduceIte, List.take_of_length_le, if_pos, if_neg, getD_exs, cnE, cnV, Tryz.ntmps82, Tryz.results82,  x4j, hg2, hl2, ho, hs3, hw3])
      have x4l : X4.length = X.length := by rw [← hX4, List.length_set, ← hX3, List.length_set, x2l]
      have hq : ∀ (K : Blk) (q : Nat), q ≠ ta → q ≠ tc → q ≠ j → (X4.set j K)[q]? = X[q]? := fun K q h1 h2 h3 => by
        rw [List.getElem?_set_ne (Ne.symm h3), ← hX4, List.getElem?_set_ne (Ne.symm h2), ← hX3, List.getElem?_set_ne (Ne.symm h1), hX2', List.getElem?_set_ne (Ne.symm h3)]
      refine ⟨xl.length - (i + 1), by omega, hI0 _ _ ⟨i + 1, _, (), mixJ (by rw [hnx]; rfl) rfl, hi, ?_, ?_, ?_, ?_, rfl⟩⟩
      · exact List.getElem?_set_self (by omega)
      · rw [← hset]
        refine hst _ _ rfl rfl (fun q h1 h2 h3 => hq _ q h1 h2 fun e => hnj (e ▸ h3)) ?_ ?_
        · show (X4.set j _)[ta]? = _
          rw [List.getElem?_set_ne (Ne.symm hne1), ← hX4, List.getElem?_set_ne (Ne.symm hac), ← hX3, List.getElem?_set_self (by have := (List.getElem?_eq_some_iff.1 x2a).1; exact this)]
          rfl
        · show (X4.set j _)[tc]? = _
          rw [List.getElem?_set_ne (Ne.symm hne2), ← hX4, List.getElem?_set_self (by have := (List.getElem?_eq_some_iff.1 x3c).1; exact this)]
          rfl
      · rw [List.length_set, x4l]; exact g4
      · intro q h1
        have h2 : q ≠ j := fun e => h1 (by rw [e]; exact List.mem_cons_self)
        have h3 : q ≠ ta := fun e => h1 (by rw [e]; exact List.mem_cons_of_mem _ hia)
        have h4 : q ≠ tc := fun e => h1 (by rw [e]; exact List.mem_cons_of_mem _ hic)
        rw [hq _ q h3 h4 h2]
        exact g5 q h1
    · obtain rfl : i = xl.length := by omega
      rw [parM_full] at g2 g3
      rw [List.take_length]
      have hln : ((mkL me1P ne1P k xl).map pxE).length = xl.length := by rw [List.length_map, mkL_len]
      repeat' (first | with_reducible first | refine kI (by kernel_rfl) ?_ | refine kN (by kernel_rfl) ?_ | simp -implicitDefEqProofs (disch := omega) only [go_sem, Nat.reduceAdd, Nat.reduceSub, reduceCtorEq, Nat.reduceLT, Nat.reduceLeDiff, Nat.reduceEqDiff, ↓reduceIte, List.take_of_length_le, if_pos, if_neg, getD_exs, cnE, cnV, Tryz.ntmps82, Tryz.results82,  g2, hln])
      exact ⟨g3, g4, g5⟩
end Go.Proofs.YtkmnepmnjpdpkaaGreatDoor
