/- Contracts of functions that the laws of this seat call. -/
import Derived.Test.YtkmnepmnjpdpkaaGreatDoorXXh
set_option linter.all false
namespace Go.Proofs.YtkmnepmnjpdpkaaGreatDoor
open Go Go.Ev Go.RowKit Go.Ev.Enc Go.Pl

def mkB (k : Int) (B : Bf) : Bf := ⟨mks k B.c.length, mkL me1 ne1 (k + B.c.length) B.e⟩
def nb (k : Int) (B : Bf) : Int := nxL ne1 (k + B.c.length) B.e
theorem can_markES : CanCall Tryz.prog 82 := ⟨_, Tryz.func82, rfl, rfl⟩
theorem can_markB : CanCall Tryz.prog 42 := ⟨_, Tryz.func42, rfl, rfl⟩
set_option maxHeartbeats 2000000 in
set_option maxRecDepth 100000 in
theorem isp_markExportZ {Sg : FuncId → Option (List AV → Option AV)} (hS : Sound Tryz.prog Sg) (k : Int) (L : List Blk) : ISpec Tryz.prog 82 [.nilS, i64 k] L (fun r L' => r = i64 k ∧ L' = L) := by
  refine ISpec.intro Tryz.func82 rfl (vc_sound Tryz.pf hS _ _ _ ?_)
  repeat' (first | with_reducible first | refine kI (by kernel_rfl) ?_ | refine kN (by kernel_rfl) ?_ | simp -implicitDefEqProofs (disch := omega) only [go_sem, Nat.reduceAdd, Nat.reduceSub, reduceCtorEq, Nat.reduceLT, Nat.reduceLeDiff, Nat.reduceEqDiff, ↓reduceIte, List.take_of_length_le, if_pos, if_neg, getD_exs, cnE, cnV, Tryz.ntmps82, Tryz.results82])
  refine LoopQ.mix (fun t0 L0 nn ss => ∃ (j : Nat) (_ : Unit), (∃ x : Nat → AV, ss = ⟨mixL 0 (.k :: .v (i64 k) :: .k :: .k :: .k :: .v (i64 0) :: .s :: .s :: .s :: .s :: .s :: .s :: .s :: .s :: .s :: .s :: .s :: .s :: .s :: .s :: .s :: .s :: .s :: .s :: .s :: .s :: .s :: .s :: .s :: .s :: .s :: .s :: .s :: .s :: .s :: .s :: .s :: .s :: .s :: .s :: .s :: .s :: .s :: .s :: .s :: .s :: .s :: .s :: .s :: .s :: .s :: .s :: .k :: []) t0 x, L⟩) ∧ (True) ∧ nn = 0) ?_ ?_
  · exact ⟨_, ⟨0, (), mixI rfl, trivial, rfl⟩⟩
  · rintro I0 hI0 n s ⟨j, _, ⟨x, rfl⟩, g1, rfl⟩
    repeat' (first | with_reducible first | refine kI (by kernel_rfl) ?_ | refine kN (by kernel_rfl) ?_ | simp -implicitDefEqProofs (disch := omega) only [go_sem, Nat.reduceAdd, Nat.reduceSub, reduceCtorEq, Nat.reduceLT, Nat.reduceLeDiff, Nat.reduceEqDiff, ↓reduceIte, List.take_of_length_le, if_pos, if_neg, getD_exs, cnE, cnV, Tryz.ntmps82, Tryz.results82])
def MkE : Prop := ∀ (xl : List Px) (k : Int) (j : Nat) (L : List Blk), L[j]? = some ⟨5, xl.map pxE⟩ → pxH L xl → (j :: pxI xl).Nodup → xl.length ≤ 1048576 → (∀ t ∈ xl, t.x.v.sh.length ≤ 1048576 ∧ t.x.v.st.length ≤ 1048576) → 0 ≤ k ∧ k ≤ 100000000 → ISpec Tryz.prog 82 [.sl j xl.length 0 xl.length xl.length, i64 k] L fun r L' => r = i64 (nxL ne1P k xl) ∧ L'[j]? = some ⟨5, (mkL me1P ne1P k xl).map pxE⟩ ∧ pxH L' (mkL me1P ne1P k xl) ∧ L'.length = L.length ∧ ∀ q, q ∉ j :: pxI xl → L'[q]? = L[q]?
set_option maxHeartbeats 2000000 in
set_option maxRecDepth 100000 in
theorem isp_markBuffer {Sg : FuncId → Option (List AV → Option AV)} (hS : Sound Tryz.prog Sg) (n1 : Sg 81 = none) (n2 : Sg 82 = none) (B : Bf) (k : Int) (i : Nat) (be : AV) (js : List Nat) (xl : List Px) (L : List Blk) (hx : HBx L i be js xl B) (hB : bfM B) (hk : 0 ≤ k ∧ k ≤ 10000000) (hmE : MkE) : ISpec Tryz.prog 42 [.agg [.sl i B.c.length 0 B.c.length B.c.length, be], i64 k] L (fun r L' => r = i64 (nb k B) ∧ HBx L' i be js (mkL me1P ne1P (k + B.c.length) xl) (mkB k B) ∧ L.length ≤ L'.length ∧ ∀ q, q < L.length → q ∉ i :: (js ++ pxI xl) → L'[q]? = L[q]?) := by
  refine ISpec.intro Tryz.func42 rfl (vc_sound Tryz.pf hS _ _ _ ?_)
  have hcell := hx.x.cell
  have hil := hx.lt i (by simp)
  have hxl : xl.length = B.e.length := by rw [← hx.e, List.length_map]
  have hnb : nxL ne1P (k + B.c.length) xl = nb k B := by rw [nxL_map (n := ne1P) (n2 := ne1) (f := Px.x) (fun _ _ => rfl), hx.e]; rfl
  have hmp : (mkL me1P ne1P (k + B.c.length) xl).map Px.x = (mkB k B).e := by rw [mkL_map (m := me1P) (n := ne1P) (m2 := me1) (n2 := ne1) (f := Px.x) (fun _ _ => rfl) (fun _ _ => rfl), hx.e]; rfl
  obtain ⟨hB1, hB2, hB3⟩ := hB
  repeat' (first | with_reducible first | refine kI (by kernel_rfl) ?_ | refine kN (by kernel_rfl) ?_ | simp -implicitDefEqProofs (disch := omega) only [go_sem, Nat.reduceAdd, Nat.reduceSub, reduceCtorEq, Nat.reduceLT, Nat.reduceLeDiff, Nat.reduceEqDiff, ↓reduceIte, if_pos, if_neg, Tryz.ntmps42, Tryz.results42,  hcell, n1, opQ_none])
  refine InlK_intro rfl rfl can_markI ((isp_markIntB hS B.c k i _ (get_ext hx.c _) (by omega) (by omega)).mono ?_)
  rintro r L1 ⟨rfl, rfl⟩
  rw [List.set_append_left _ _ hil]
  have y1 : ∀ (K : Blk) (Z : List Blk) (V : Blk), (L.set i K ++ V :: Z)[L.length]? = some V := fun K Z V => get_set1 (k := 0)
  obtain ⟨K, hK⟩ : ∃ K, (⟨1, (mks k B.c.length).map fun n => .int .i64 n⟩ : Blk) = K := ⟨_, rfl⟩
  rw [hK]
  have hout : ∀ q, q < L.length → q ∉ i :: (js ++ pxI xl) → ∀ Z : List Blk, (L.set i K ++ Z)[q]? = L[q]? := fun q hq h Z => by
    rw [List.getElem?_append_left (by rw [List.length_set]; exact hq), List.getElem?_set_ne (fun e => h (by simp [e]))]
  obtain ⟨hni, hnr⟩ := List.nodup_cons.1 hx.n
  have hin : ∀ b ∈ js ++ pxI xl, ∀ Z : List Blk, (L.set i K ++ Z)[b]? = L[b]? := fun b hb Z => by
    rw [List.getElem?_append_left (by rw [List.length_set]; exact hx.lt b (List.mem_cons_of_mem _ hb)), List.getElem?_set_ne (fun e : i = b => hni (by rw [e]; exact hb))]
  have hci : ∀ Z : List Blk, (L.set i K ++ Z)[i]? = some (stB (mks k B.c.length)) := fun Z => get_ext (by rw [List.getElem?_set_self hil, ← hK]) Z
  rcases hx.x with ⟨rfl, rfl, rfl⟩ | ⟨j, rfl, rfl, hj⟩
  · repeat' (first | with_reducible first | refine kI (by kernel_rfl) ?_ | refine kN (by kernel_rfl) ?_ | simp -implicitDefEqProofs (disch := omega) only [go_sem, Nat.reduceAdd, Nat.reduceSub, reduceCtorEq, Nat.reduceLT, Nat.reduceLeDiff, Nat.reduceEqDiff, ↓reduceIte, if_pos, if_neg, Tryz.ntmps42, Tryz.results42,  y1, n2, opQ_none])
    refine InlK_intro rfl rfl can_markES ((isp_markExportZ hS _ _).mono ?_)
    rintro r L1 ⟨rfl, rfl⟩
    repeat' (first | with_reducible first | refine kI (by kernel_rfl) ?_ | refine kN (by kernel_rfl) ?_ | simp -implicitDefEqProofs (disch := omega) only [go_sem, Nat.reduceAdd, Nat.reduceSub, reduceCtorEq, Nat.reduceLT, Nat.reduceLeDiff, Nat.reduceEqDiff, ↓reduceIte, if_pos, if_neg, Tryz.ntmps42, Tryz.results42])
    refine ⟨by rw [← hnb]; rfl, ⟨by simpa [mkB] using hci _, hmp, .inl ⟨rfl, rfl, rfl⟩, (fun t ht => by cases ht), by simp [mkL, pxI]⟩, by simp, fun q hq h => hout q hq h _⟩
  · repeat' (first | with_reducible first | refine kI (by kernel_rfl) ?_ | refine kN (by kernel_rfl) ?_ | simp -implicitDefEqProofs (disch := omega) only [go_sem, Nat.reduceAdd, Nat.reduceSub, reduceCtorEq, Nat.reduceLT, Nat.reduceLeDiff, Nat.reduceEqDiff, ↓reduceIte, if_pos, if_neg, Tryz.ntmps42, Tryz.results42,  y1, n2, opQ_none])
    refine InlK_intro rfl rfl can_markES ((hmE xl (k + B.c.length) j _ ((hin j (by simp) _).trans hj) (pxH_same hx.h fun b hb => hin b (List.mem_append_right _ hb) _) hnr (by omega) (fun t ht => ?_) (by omega)).mono ?_)
    · obtain ⟨n, hn, rfl⟩ := List.mem_iff_getElem.1 ht
      have h9 := hB3 n (by omega)
      have : B.e.getD n ex0 = xl[n].x := by rw [← hx.e]; simp [hn]
      rw [this] at h9
      exact h9
    · rintro r L1 ⟨rfl, m1, m2, m3, m4⟩
      repeat' (first | with_reducible first | refine kI (by kernel_rfl) ?_ | refine kN (by kernel_rfl) ?_ | simp -implicitDefEqProofs (disch := omega) only [go_sem, Nat.reduceAdd, Nat.reduceSub, reduceCtorEq, Nat.reduceLT, Nat.reduceLeDiff, Nat.reduceEqDiff, ↓reduceIte, if_pos, if_neg, Tryz.ntmps42, Tryz.results42])
      have hI : pxI (mkL me1P ne1P (k + B.c.length) xl) = pxI xl := pxI_mk _ _
      refine ⟨hnb, ⟨?_, hmp, .inr ⟨j, rfl, by rw [mkL_len], m1⟩, m2, by rw [hI]; exact hx.n⟩, by rw [m3]; simp, fun q hq h => ?_⟩
      · rw [m4 i hni]; simpa [mkB] using hci _
      · rw [m4 q (fun h9 => h (List.mem_cons_of_mem _ h9))]; exact hout q hq h _
def exsM (l : List Ex) : Prop := l.length ≤ 1000 ∧ ∀ i, i < l.length → (l.getD i ex0).v.sh.length ≤ 1000 ∧ (l.getD i ex0).v.st.length ≤ 1000
instance (l : List Ex) : Decidable (exsM l) := by unfold exsM; infer_instance
instance mkdE (k : Int) (l : List Ex) : Decidable (mkdL me1 ne1 k l) := match l with
  | [] => isTrue trivial
  | a :: l => @instDecidableAnd _ _ _ (mkdE (ne1 k a) l)
def gHeldE (l : List Ex) (k : Int) : Option Int := gd (exsM l ∧ (0 ≤ k ∧ k ≤ 100000) ∧ mkdL me1 ne1 k l) (nxL ne1 k l)
theorem gHeldE_eq {l : List Ex} {k : Int} (h : exsM l ∧ (0 ≤ k ∧ k ≤ 100000) ∧ mkdL me1 ne1 k l) : gHeldE l k = some (nxL ne1 k l) := gd_eq h
theorem neB {a b : Bool} (h : a = b) : (a != b) = false := by subst h; simp
set_option maxHeartbeats 4000000 in
set_option maxRecDepth 100000 in
theorem spec_heldExportS {Sg : FuncId → Option (List AV → Option AV)} (hS : Sound Tryz.prog Sg) (hc : Sg 83 = some (F2 gHeldI)) : ∀ a r, F2 gHeldE a = some r → CSpec Tryz.prog 84 a r := by
  refine F2_spec ?_
  intro l k r hr
  obtain ⟨⟨⟨b1, b2⟩, hk, hm⟩, rfl⟩ := gd_some hr
  refine CSpec.intro Tryz.func84 rfl (own _) (vc3_sound Tryz.pf hS hS _ _ _ ?_)
  repeat' (first | with_reducible first | refine kI (by kernel_rfl) ?_ | refine kN (by kernel_rfl) ?_ | simp -implicitDefEqProofs (disch := omega) only [go_sem, Nat.reduceAdd, Nat.reduceSub, reduceCtorEq, Nat.reduceLT, Nat.reduceLeDiff, Nat.reduceEqDiff, ↓reduceIte, List.take_of_length_le, if_pos, if_neg, getD_exs, cnE, cnV, Tryz.ntmps84, Tryz.results84])
  refine LoopQ.mix (fun t0 L0 nn ss => ∃ (i : Nat) (_ : Unit), (∃ x : Nat → AV, ss = ⟨mixL 0 (.k :: .v (i64 (nxL ne1 k (l.take i))) :: .k :: .k :: .s :: .v (i64 (i : Nat)) :: .s :: .s :: .s :: .s :: .s :: .s :: .s :: .s :: .s :: .s :: .s :: .s :: .s :: .s :: .s :: .s :: .s :: .s :: .s :: .s :: .s :: .s :: .s :: .s :: .s :: .s :: .s :: .s :: .s :: .s :: .s :: .s :: .s :: .s :: .s :: .s :: .s :: .s :: .s :: .s :: .s :: .s :: .s :: .s :: .s :: .s :: .s :: .s :: .s :: .s :: .s :: .s :: .s :: .s :: .s :: .s :: .k :: []) t0 x, L0⟩) ∧ (i ≤ l.length) ∧ nn = l.length - i) ?_ ?_
  · exact ⟨_, 0, (), mixI rfl, Nat.zero_le _, rfl⟩
  · rintro I0 hI0 n s ⟨i, _, ⟨x, rfl⟩, g1, rfl⟩
    by_cases hi : i < l.length
    · have hii : (i : Int) < (l.length : Int) := by omega
      have hga := getD_exs (t := 0) hi
      have hat := mkdL_at (d := ex0) hm hi
      have hnx := nxL_next (n := ne1) (d := ex0) (k := k) hi
      have hlm := b2 i hi
      have hnl := nxL_le (n := ne1) (k := k) (l := l.take i) (c := 2003) (by
        intro a ha k
        obtain ⟨j, hj, rfl⟩ := List.mem_iff_getElem.1 (List.mem_of_mem_take ha)
        have := b2 j hj
        rw [show l.getD j ex0 = l[j] by simp [hj]] at this
        unfold ne1
        omega)
      rw [List.length_take] at hnl
      generalize nxL ne1 k (l.take i) = c at *
      generalize l.getD i ex0 = a at *
      obtain ⟨ap, ⟨ab, ash, ast⟩, ao⟩ := a
      simp only [me1, Ex.mk.injEq, Vi.mk.injEq] at hat
      obtain ⟨rfl, ⟨rfl, h1, h2⟩, rfl⟩ := hat
      dsimp only at hga hlm
      have q1 := gHeldI_eq (l := ash) (k := c + 2) ⟨by omega, by omega, by omega, h1.symm⟩
      have q3 := gHeldI_eq (l := ast) (k := c + 2 + ash.length) ⟨by omega, by omega, by omega, h2.symm⟩
      have hw : IntKind.i64.wrap (c + 1) = c + 1 := wrap_in (by omega)
      have hw1 : IntKind.i64.wrap (c + 1 + 1) = c + 2 := by rw [wrap_in (by omega)]; omega
      have q2 : ¬ (c + 2 + (ash.length : Int) < 0) := by omega
      have q4 : ¬ (c + 2 + (ash.length : Int) + ast.length < 0) := by omega
      have ho : ((c + 2 + (ash.length : Int) + ast.length).tmod 3 == 0) = oE (c + 2 + ash.length + ast.length) := rfl
      have hoo : (oE (c + 2 + ash.length + ast.length) != oE (c + 2 + ash.length + ast.length)) = false := neB rfl
      have hw3 : IntKind.i64.wrap (c + 2 + (ash.length : Int) + ast.length + 1) = c + 2 + (ash.length : Int) + ast.length + 1 := wrap_in (by omega)
      repeat' (first | with_reducible first | refine kI (by kernel_rfl) ?_ | refine kN (by kernel_rfl) ?_ | simp -implicitDefEqProofs (disch := omega) only [go_sem, Nat.reduceAdd, Nat.reduceSub, reduceCtorEq, Nat.reduceLT, Nat.reduceLeDiff, Nat.reduceEqDiff, ↓reduceIte, List.take_of_length_le, if_pos, if_neg, getD_exs, cnE, cnV, Tryz.ntmps84, Tryz.results84,  hii, hga, hw, hw1, hc, q1, q2, q3, q4, ho, hoo, hw3])
      exact ⟨l.length - (i + 1), by omega, hI0 _ _ ⟨i + 1, (), mixI (by rw [hnx]; rfl), hi, rfl⟩⟩
    · obtain rfl : i = l.length := by omega
      rw [List.take_length]
      repeat' (first | with_reducible first | refine kI (by kernel_rfl) ?_ | refine kN (by kernel_rfl) ?_ | simp -implicitDefEqProofs (disch := omega) only [go_sem, Nat.reduceAdd, Nat.reduceSub, reduceCtorEq, Nat.reduceLT, Nat.reduceLeDiff, Nat.reduceEqDiff, ↓reduceIte, List.take_of_length_le, if_pos, if_neg, getD_exs, cnE, cnV, Tryz.ntmps84, Tryz.results84])
      try rfl
def gHeldB (B : Bf) (k : Int) : Option Int := gd ((B.c.length ≤ 1000 ∧ exsM B.e) ∧ (0 ≤ k ∧ k ≤ 1000) ∧ B.c = mks k B.c.length ∧ mkdL me1 ne1 (k + B.c.length) B.e) (nb k B)
theorem gHeldB_eq {B : Bf} {k : Int} (h : (B.c.length ≤ 1000 ∧ exsM B.e) ∧ (0 ≤ k ∧ k ≤ 1000) ∧ B.c = mks k B.c.length ∧ mkdL me1 ne1 (k + B.c.length) B.e) : gHeldB B k = some (nb k B) := gd_eq h
set_option maxHeartbeats 4000000 in
set_option maxRecDepth 100000 in
theorem spec_heldBuffer {Sg : FuncId → Option (List AV → Option AV)} (hS : Sound Tryz.prog Sg) (h1 : Sg 83 = some (F2 gHeldI)) (h2 : Sg 84 = some (F2 gHeldE)) : ∀ a r, F2 gHeldB a = some r → CSpec Tryz.prog 43 a r := by
  refine F2_spec ?_
  intro B k r hr
  obtain ⟨⟨⟨b1, b2⟩, hk, hc, hm⟩, rfl⟩ := gd_some hr
  have q1 := gHeldI_eq (l := B.c) (k := k) ⟨by omega, by omega, by omega, hc⟩
  have q2 := gHeldE_eq (l := B.e) (k := k + B.c.length) ⟨b2, by omega, hm⟩
  have hle := (nxL_le (n := ne1) (k := k + B.c.length) (l := B.e) (c := 2003) (by
    intro a ha k
    obtain ⟨j, hj, rfl⟩ := List.mem_iff_getElem.1 ha
    have := b2.2 j hj
    rw [show B.e.getD j ex0 = B.e[j] by simp [hj]] at this
    unfold ne1
    omega)).1
  have w1 : ¬ (k + (B.c.length : Int) < 0) := by omega
  have w2 : ¬ (nb k B < 0) := by unfold nb; omega
  have hnb : nxL ne1 (k + (B.c.length : Int)) B.e = nb k B := rfl
  rw [hnb] at q2
  refine CSpec.intro Tryz.func43 rfl (own _) (vc3_sound Tryz.pf hS hS _ _ _ ?_)
  repeat' (first | with_reducible first | refine kI (by kernel_rfl) ?_ | refine kN (by kernel_rfl) ?_ | simp -implicitDefEqProofs (disch := omega) only [go_sem, Nat.reduceAdd, Nat.reduceSub, reduceCtorEq, Nat.reduceLT, Nat.reduceLeDiff, Nat.reduceEqDiff, ↓reduceIte, if_pos, if_neg, Tryz.ntmps43, Tryz.results43,  h1, q1, w1, h2, q2, w2])
  try rfl
set_option maxHeartbeats 4000000 in
set_option maxRecDepth 100000 in
theorem spec_eqViewX {Sg : FuncId → Option (List AV → Option AV)} (hS : Sound Tryz.prog Sg) (he : Sg 79 = some (F2 gEqInts)) : ∀ a r, F2 gEqV a = some r → CSpec Tryz.prog 156 a r := by
  refine F2_spec ?_
  rintro ⟨b, s, t⟩ ⟨b', s', t'⟩ r hr
  obtain ⟨⟨⟨h1, h2⟩, h3, h4⟩, rfl⟩ := gd_some hr
  dsimp only at h1 h2 h3 h4
  have q1 := gEqInts_eq (a := s) (b := s') ⟨h1, h3⟩
  have q2 := gEqInts_eq (a := t) (b := t') ⟨h2, h4⟩
  have hd : decide ((⟨b, s, t⟩ : Vi) = ⟨b', s', t'⟩) = ((b == b') && (decide (s = s') && decide (t = t'))) := by
    rw [Bool.eq_iff_iff]; simp
  rw [hd]
  refine CSpec.intro Tryz.func156 rfl (own _) (vc3_sound Tryz.pf hS hS _ _ _ ?_)
  by_cases e1 : b = b'
  · have e1' : (b == b') = true := beq_t e1
    rw [e1']
    by_cases e2 : s = s'
    · rw [decide_eq_true e2] at q1 ⊢
      by_cases e3 : t = t'
      · rw [decide_eq_true e3] at q2 ⊢
        repeat' (first | with_reducible first | refine kI (by kernel_rfl) ?_ | refine kN (by kernel_rfl) ?_ | simp -implicitDefEqProofs (disch := omega) only [go_sem, Nat.reduceAdd, Nat.reduceSub, reduceCtorEq, Nat.reduceLT, Nat.reduceLeDiff, Nat.reduceEqDiff, ↓reduceIte, if_pos, if_neg, Tryz.ntmps156, Tryz.results156,  e1', he, q1, q2])
        try rfl
      · rw [decide_eq_false e3] at q2 ⊢
        repeat' (first | with_reducible first | refine kI (by kernel_rfl) ?_ | refine kN (by kernel_rfl) ?_ | simp -implicitDefEqProofs (disch := omega) only [go_sem, Nat.reduceAdd, Nat.reduceSub, reduceCtorEq, Nat.reduceLT, Nat.reduceLeDiff, Nat.reduceEqDiff, ↓reduceIte, if_pos, if_neg, Tryz.ntmps156, Tryz.results156,  e1', he, q1, q2])
        try rfl
    · rw [decide_eq_false e2] at q1 ⊢
      repeat' (first | with_reducible first | refine kI (by kernel_rfl) ?_ | refine kN (by kernel_rfl) ?_ | simp -implicitDefEqProofs (disch := omega) only [go_sem, Nat.reduceAdd, Nat.reduceSub, reduceCtorEq, Nat.reduceLT, Nat.reduceLeDiff, Nat.reduceEqDiff, ↓reduceIte, List.take_of_length_le, if_pos, if_neg, getD_exs, cnE, cnV, Tryz.ntmps156, Tryz.results156,  e1', he, q1])
      try rfl
  · have e1' : (b == b') = false := beq_f e1
    rw [e1']
    repeat' (first | with_reducible first | refine kI (by kernel_rfl) ?_ | refine kN (by kernel_rfl) ?_ | simp -implicitDefEqProofs (disch := omega) only [go_sem, Nat.reduceAdd, Nat.reduceSub, reduceCtorEq, Nat.reduceLT, Nat.reduceLeDiff, Nat.reduceEqDiff, ↓reduceIte, List.take_of_length_le, if_pos, if_neg, getD_exs, cnE, cnV, Tryz.ntmps156, Tryz.results156,  e1'])
    try rfl
def gEqE (a b : Ex) : Option Bool := gd (viB2 a.v b.v) (decide (a = b))
theorem gEqE_eq {a b : Ex} (h : viB2 a.v b.v) : gEqE a b = some (decide (a = b)) := gd_eq h
set_option maxHeartbeats 4000000 in
set_option maxRecDepth 100000 in
theorem spec_eqExport {Sg : FuncId → Option (List AV → Option AV)} (hS : Sound Tryz.prog Sg) (he : Sg 156 = some (F2 gEqV)) : ∀ a r, F2 gEqE a = some r → CSpec Tryz.prog 125 a r := by
  refine F2_spec ?_
  rintro ⟨p, v, o⟩ ⟨p', v', o'⟩ r hr
  obtain ⟨h, rfl⟩ := gd_some hr
  dsimp only at h
  have q1 := gEqV_eq h
  have hd : decide ((⟨p, v, o⟩ : Ex) = ⟨p', v', o'⟩) = ((p == p') && (decide (v = v') && (o == o'))) := by
    rw [Bool.eq_iff_iff]; simp
  rw [hd]
  refine CSpec.intro Tryz.func125 rfl (own _) (vc3_sound Tryz.pf hS hS _ _ _ ?_)
  by_cases e1 : p = p'
  · have e1' : (p == p') = true := beq_t e1
    rw [e1']
    by_cases e2 : v = v'
    · rw [decide_eq_true e2] at q1 ⊢
      by_cases e3 : o = o'
      · have e3' : (o != o') = false := neB e3
        have e4 : (o == o') = true := by simp [e3]
        rw [e4]
        repeat' (first | with_reducible first | refine kI (by kernel_rfl) ?_ | refine kN (by kernel_rfl) ?_ | simp -implicitDefEqProofs (disch := omega) only [go_sem, Nat.reduceAdd, Nat.reduceSub, reduceCtorEq, Nat.reduceLT, Nat.reduceLeDiff, Nat.reduceEqDiff, ↓reduceIte, List.take_of_length_le, if_pos, if_neg, getD_exs, cnE, cnV, Tryz.ntmps125, Tryz.results125,  e1', he, q1, e3'])
        try rfl
      · have e3' : (o != o') = true := by simp [bne, e3]
        have e4 : (o == o') = false := by simp [e3]
        rw [e4]
        repeat' (first | with_reducible first | refine kI (by kernel_rfl) ?_ | refine kN (by kernel_rfl) ?_ | simp -implicitDefEqProofs (disch := omega) only [go_sem, Nat.reduceAdd, Nat.reduceSub, reduceCtorEq, Nat.reduceLT, Nat.reduceLeDiff, Nat.reduceEqDiff, ↓reduceIte, List.take_of_length_le, if_pos, if_neg, getD_exs, cnE, cnV, Tryz.ntmps125, Tryz.results125,  e1', he, q1, e3'])
        try rfl
    · rw [decide_eq_false e2] at q1 ⊢
      repeat' (first | with_reducible first | refine kI (by kernel_rfl) ?_ | refine kN (by kernel_rfl) ?_ | simp -implicitDefEqProofs (disch := omega) only [go_sem, Nat.reduceAdd, Nat.reduceSub, reduceCtorEq, Nat.reduceLT, Nat.reduceLeDiff, Nat.reduceEqDiff, ↓reduceIte, if_pos, if_neg, Tryz.ntmps125, Tryz.results125,  e1', he, q1])
      try rfl
  · have e1' : (p == p') = false := beq_f e1
    rw [e1']
    repeat' (first | with_reducible first | refine kI (by kernel_rfl) ?_ | refine kN (by kernel_rfl) ?_ | simp -implicitDefEqProofs (disch := omega) only [go_sem, Nat.reduceAdd, Nat.reduceSub, reduceCtorEq, Nat.reduceLT, Nat.reduceLeDiff, Nat.reduceEqDiff, ↓reduceIte, if_pos, if_neg, Tryz.ntmps125, Tryz.results125,  e1'])
    try rfl
def exsB (l : List Ex) : Prop := l.length < 4294967296 ∧ ∀ i, i < l.length → viB (l.getD i ex0).v
instance (l : List Ex) : Decidable (exsB l) := by unfold exsB; infer_instance
def gEqEs (a b : List Ex) : Option Bool := gd (exsB a ∧ exsB b) (decide (a = b))
theorem gEqEs_eq {a b : List Ex} (h1 : exsB a) (h2 : exsB b) : gEqEs a b = some (decide (a = b)) := gd_eq ⟨h1, h2⟩
theorem exs_ne {a b : List Ex} {i : Nat} (h : a.getD i ex0 ≠ b.getD i ex0) : decide (a = b) = false := by
  rw [decide_eq_false_iff_not]; rintro rfl; exact h rfl
theorem exs_same {a b : List Ex} (h2 : a.length = b.length) (h3 : ∀ i, i < a.length → a.getD i ex0 = b.getD i ex0) : decide (a = b) = true := by
  rw [decide_eq_true_eq]
  apply List.ext_getElem h2
  intro i k1 k2
  have := h3 i k1
  simpa [k1, k2] using this
set_option maxHeartbeats 4000000 in
set_option maxRecDepth 100000 in
theorem spec_eqExportS {Sg : FuncId → Option (List AV → Option AV)} (hS : Sound Tryz.prog Sg) (he : Sg 125 = some (F2 gEqE)) : ∀ a r, F2 gEqEs a = some r → CSpec Tryz.prog 80 a r := by
  refine F2_spec ?_
  intro a b r hr
  obtain ⟨⟨⟨a1, a2⟩, b1, b2⟩, rfl⟩ := gd_some hr
  refine CSpec.intro Tryz.func80 rfl (own _) (vc3_sound Tryz.pf hS hS _ _ _ ?_)
  by_cases e2 : a.length = b.length
  · have e2' : ((a.length : Int) == (b.length : Int)) = true := beq_t (by omega)
    repeat' (first | with_reducible first | refine kI (by kernel_rfl) ?_ | refine kN (by kernel_rfl) ?_ | simp -implicitDefEqProofs (disch := omega) only [go_sem, Nat.reduceAdd, Nat.reduceSub, reduceCtorEq, Nat.reduceLT, Nat.reduceLeDiff, Nat.reduceEqDiff, ↓reduceIte, List.take_of_length_le, if_pos, if_neg, getD_exs, cnE, cnV, Tryz.ntmps80, Tryz.results80,  e2'])
    refine LoopQ.mix (fun t0 L0 nn ss => ∃ (i : Nat) (_ : Unit), (∃ x : Nat → AV, ss = ⟨mixL 0 (.k :: .k :: .k :: .k :: .s :: .v (i64 (i : Nat)) :: .k :: .k :: .k :: .k :: .k :: .s :: .s :: .s :: .s :: .s :: .s :: .s :: .s :: .s :: .s :: .s :: .s :: .s :: .s :: .s :: .s :: []) t0 x, L0⟩) ∧ (i ≤ a.length) ∧ (∀ j, j < i → a.getD j ex0 = b.getD j ex0) ∧ nn = a.length - i) ?_ ?_
    · exact ⟨_, ⟨0, (), mixI rfl, Nat.zero_le _, fun j hj => absurd hj (Nat.not_lt_zero _), rfl⟩⟩
    · rintro I0 hI0 nn ss ⟨i, _, ⟨y, rfl⟩, g1, g2, rfl⟩
      by_cases hi : i < a.length
      · have hii : (i : Int) < (a.length : Int) := by omega
        have hj : i < b.length := by omega
        have hga := getD_exs (t := 0) hi
        have hgb := getD_exs (t := 0) hj
        have q := gEqE_eq (a := a.getD i ex0) (b := b.getD i ex0) ⟨a2 i hi, b2 i hj⟩
        have hnx := @exs_ne a b i
        have hfx : ∀ (p : a.getD i ex0 = b.getD i ex0) j, j < i + 1 → a.getD j ex0 = b.getD j ex0 := fun p j hj => if e : j = i then by rw [e]; exact p else g2 j (by omega)
        generalize a.getD i ex0 = x at *
        generalize b.getD i ex0 = z at *
        by_cases c : x = z
        · rw [decide_eq_true c] at q
          have hf := hfx c
          subst c
          repeat' (first | with_reducible first | refine kI (by kernel_rfl) ?_ | refine kN (by kernel_rfl) ?_ | simp -implicitDefEqProofs (disch := omega) only [go_sem, Nat.reduceAdd, Nat.reduceSub, reduceCtorEq, Nat.reduceLT, Nat.reduceLeDiff, Nat.reduceEqDiff, ↓reduceIte, List.take_of_length_le, if_pos, if_neg, getD_exs, cnE, cnV, Tryz.ntmps80, Tryz.results80,  hii, hga, hgb, he, q])
          exact ⟨a.length - (i + 1), by omega, hI0 _ _ ⟨i + 1, (), mixI rfl, hi, hf, rfl⟩⟩
        · rw [decide_eq_false c] at q
          rw [hnx c]
          repeat' (first | with_reducible first | refine kI (by kernel_rfl) ?_ | refine kN (by kernel_rfl) ?_ | simp -implicitDefEqProofs (disch := omega) only [go_sem, Nat.reduceAdd, Nat.reduceSub, reduceCtorEq, Nat.reduceLT, Nat.reduceLeDiff, Nat.reduceEqDiff, ↓reduceIte, List.take_of_length_le, if_pos, if_neg, getD_exs, cnE, cnV, Tryz.ntmps80, Tryz.results80,  hii, hga, hgb, he, q])
          try rfl
      · obtain rfl : i = a.length := by omega
        rw [exs_same e2 g2]
        repeat' (first | with_reducible first | refine kI (by kernel_rfl) ?_ | refine kN (by kernel_rfl) ?_ | simp -implicitDefEqProofs (disch := omega) only [go_sem, Nat.reduceAdd, Nat.reduceSub, reduceCtorEq, Nat.reduceLT, Nat.reduceLeDiff, Nat.reduceEqDiff, ↓reduceIte, List.take_of_length_le, if_pos, if_neg, getD_exs, cnE, cnV, Tryz.ntmps80, Tryz.results80])
        try rfl
  · have e2' : ((a.length : Int) == (b.length : Int)) = false := beq_f (by omega)
    rw [decide_eq_false (fun h => e2 (by rw [h]))]
    repeat' (first | with_reducible first | refine kI (by kernel_rfl) ?_ | refine kN (by kernel_rfl) ?_ | simp -implicitDefEqProofs (disch := omega) only [go_sem, Nat.reduceAdd, Nat.reduceSub, reduceCtorEq, Nat.reduceLT, Nat.reduceLeDiff, Nat.reduceEqDiff, ↓reduceIte, if_pos, if_neg, Tryz.ntmps80, Tryz.results80,  e2'])
    try rfl
set_option maxHeartbeats 4000000 in
set_option maxRecDepth 100000 in
theorem spec_eqBuffer {Sg : FuncId → Option (List AV → Option AV)} (hS : Sound Tryz.prog Sg) (h1 : Sg 79 = some (F2 gEqInts)) (h2 : Sg 80 = some (F2 gEqEs)) : ∀ a r, F2 gEqB a = some r → CSpec Tryz.prog 41 a r := by
  refine F2_spec ?_
  rintro ⟨c, e⟩ ⟨c', e'⟩ r hr
  obtain ⟨⟨⟨a1, a2, a3⟩, b1, b2, b3⟩, rfl⟩ := gd_some hr
  dsimp only at a1 a2 a3 b1 b2 b3
  have q1 := gEqInts_eq (a := c) (b := c') ⟨a1, b1⟩
  have q2 := gEqEs_eq (a := e) (b := e') ⟨a2, a3⟩ ⟨b2, b3⟩
  have hd : decide ((⟨c, e⟩ : Bf) = ⟨c', e'⟩) = (decide (c = c') && decide (e = e')) := by
    rw [Bool.eq_iff_iff]; simp
  rw [hd]
  refine CSpec.intro Tryz.func41 rfl (own _) (vc3_sound Tryz.pf hS hS _ _ _ ?_)
  by_cases e1 : c = c'
  · rw [decide_eq_true e1] at q1 ⊢
    by_cases e2 : e = e'
    · rw [decide_eq_true e2] at q2 ⊢
      repeat' (first | with_reducible first | refine kI (by kernel_rfl) ?_ | refine kN (by kernel_rfl) ?_ | simp -implicitDefEqProofs (disch := omega) only [go_sem, Nat.reduceAdd, Nat.reduceSub, reduceCtorEq, Nat.reduceLT, Nat.reduceLeDiff, Nat.reduceEqDiff, ↓reduceIte, if_pos, if_neg, Tryz.ntmps41, Tryz.results41,  h1, q1, h2, q2])
      try rfl
    · rw [decide_eq_false e2] at q2 ⊢
      repeat' (first | with_reducible first | refine kI (by kernel_rfl) ?_ | refine kN (by kernel_rfl) ?_ | simp -implicitDefEqProofs (disch := omega) only [go_sem, Nat.reduceAdd, Nat.reduceSub, reduceCtorEq, Nat.reduceLT, Nat.reduceLeDiff, Nat.reduceEqDiff, ↓reduceIte, if_pos, if_neg, Tryz.ntmps41, Tryz.results41,  h1, q1, h2, q2])
      try rfl
  · rw [decide_eq_false e1] at q1 ⊢
    repeat' (first | with_reducible first | refine kI (by kernel_rfl) ?_ | refine kN (by kernel_rfl) ?_ | simp -implicitDefEqProofs (disch := omega) only [go_sem, Nat.reduceAdd, Nat.reduceSub, reduceCtorEq, Nat.reduceLT, Nat.reduceLeDiff, Nat.reduceEqDiff, ↓reduceIte, if_pos, if_neg, Tryz.ntmps41, Tryz.results41,  h1, q1])
    try rfl
theorem mkd_B {B : Bf} (hok : bufOK B = true) (k : Int) (hk : 0 ≤ k ∧ k ≤ 1000) : gHeldB (mkB k B) k = some (nb k B) ∧ 0 ≤ nb k B := by
  obtain ⟨h1, h2, h3⟩ := bufOK_iff.1 hok
  have h60 := (memOK_iff.1 h1).1
  have hlm : (mkB k B).e.length = B.e.length := mkL_len _ _ _ _
  have hb : ∀ i, i < B.e.length → (B.e.getD i ex0).v.sh.length ≤ 1000 ∧ (B.e.getD i ex0).v.st.length ≤ 1000 := fun i hi => by
    have hv := (exOK_iff.1 (h3 i hi)).2.1
    have := (shape_facts (vOK hv).1).1
    have := (vOK hv).2
    exact ⟨by omega, by omega⟩
  have hkeep := mkL_keep (m := me1) (n := ne1) (f := fun x : Ex => (x.v.sh.length, x.v.st.length)) (fun k x => by simp [me1, mks_len]) (k + B.c.length) B.e
  have hge : ∀ i, i < B.e.length → (((mkB k B).e.getD i ex0).v.sh.length, ((mkB k B).e.getD i ex0).v.st.length) = ((B.e.getD i ex0).v.sh.length, (B.e.getD i ex0).v.st.length) := fun i hi => by
    have := congrArg (fun l : List (Nat × Nat) => l.getD i (0, 0)) hkeep
    have hi2 : i < (mkB k B).e.length := by omega
    simpa [mkB, hi, show i < (mkL me1 ne1 (k + B.c.length) B.e).length from hi2] using this
  have hcl : (mkB k B).c.length = B.c.length := mks_len _ _
  have hnb : nb k (mkB k B) = nb k B := by
    unfold nb
    rw [hcl]
    exact nxL_mk ne1_mk _ _
  refine ⟨?_, ?_⟩
  · rw [← hnb]
    refine gHeldB_eq ⟨⟨by omega, by omega, fun i hi => ?_⟩, hk, by rw [hcl]; rfl, by rw [hcl]; exact mkdL_mk ne1_mk me1_mk _ _⟩
    have h4 := hge i (by omega)
    have h5 := hb i (by omega)
    simp only [Prod.mk.injEq] at h4
    omega
  · have := (nxL_le (n := ne1) (k := k + B.c.length) (l := B.e) (c := 2003) (by
      intro a ha k
      obtain ⟨j, hj, rfl⟩ := List.mem_iff_getElem.1 ha
      have := hb j hj
      rw [show B.e.getD j ex0 = B.e[j] by simp [hj]] at this
      unfold ne1
      omega)).1
    unfold nb
    omega
end Go.Proofs.YtkmnepmnjpdpkaaGreatDoor
