/- Contracts of functions that the laws of this seat call. -/
import Derived.Test.YtkmnepmnjpdpkaaGreatDoorXXi
import Derived.Test.YtkmnepmnjpdpkaaGreatDoorXXg
import Derived.Test.YtkmnepmnjpdpkaaGreatDoorXz
set_option linter.all false
namespace Go.Proofs.YtkmnepmnjpdpkaaGreatDoor
open Go Go.Ev Go.RowKit Go.Ev.Enc Go.Pl

theorem HBx.ci {M : List Blk} {i : Nat} {be : AV} {js : List Nat} {xl : List Px} {B : Bf} (h : HBx M i be js xl B) : expC 0 M (.sl i B.c.length 0 B.c.length B.c.length) = ints 0 B.c := by
  rw [ec_sl, ee_sl, h.c]
  simp [expS, expE, stepC, Function.comp_def, List.take_of_length_le]
theorem AK.frame {N L : List Blk} {v : AV} {p : Bf × ByteArray} (h : AK N v p) : ∃ x, ownV L.length v = .tup [x, .str p.2] ∧ HB L.length (L.length + N.length) (L ++ N.map (ownB L.length)) x p.1 := by
  obtain ⟨x, rfl, hx⟩ := h
  have := HB.frame (L := L) hx
  obtain ⟨i, be, js, xl, rfl, -⟩ := hx
  exact ⟨_, rfl, this⟩
def NewX : Prop := ISpec Tryz.prog 18 [i64 0] [] (fun r L' => HB 0 L'.length L' r ⟨[], []⟩)
theorem can_NewBufferI : CanCall Tryz.prog 18 := ⟨_, Tryz.func18, rfl, rfl⟩
structure AfS (W : List Blk) (p : Nat) (i : Nat) (be : AV) (js : List Nat) (xl : List Px) (B : Bf) : Prop where
  r : W[0]? = some ⟨2, [.agg [.nilS, .nilS]]⟩
  b : W[p]? = some ⟨2, [.agg [.sl i B.c.length 0 B.c.length B.c.length, be]]⟩
  x : HBx W i be js xl B
  p0 : p ≠ 0
  d : ∀ b ∈ i :: (js ++ pxI xl), b ≠ 0
set_option maxHeartbeats 4000000 in
set_option maxRecDepth 100000 in
theorem isp_BufferAfterX {Sg : FuncId → Option (List AV → Option AV)} (hS : Sound Tryz.prog Sg) (n1 : Sg 18 = none) (ha : Sg 52 = some (F1 gActs)) (n3 : Sg 53 = none) (s : ByteArray) (hs : s.size < 4294967281) (hnew : NewX) (hap : AppX) : ISpec Tryz.prog 15 [.str s] [] (fun r L' => HB 0 L'.length L' r (aftB bf0 (actsF 60 s.data.toList))) := by
  refine ISpec.intro Tryz.func15 rfl (vc3_sound Tryz.pf hS hS _ _ _ ?_)
  have q1 := gActs_eq hs
  have hlen := actsF_len 60 s.data.toList
  have hval := actsF_val 60 s.data.toList
  generalize actsF 60 s.data.toList = l at *
  repeat' (first | with_reducible first | refine kI (by kernel_rfl) ?_ | simp -implicitDefEqProofs (disch := omega) only [go_sem, Nat.reduceAdd, Nat.reduceSub, reduceCtorEq, Nat.reduceLT, Nat.reduceLeDiff, Nat.reduceEqDiff, ↓reduceIte, if_pos, if_neg, Tryz.ntmps15, Tryz.results15,  n1, opQ_none])
  refine InlK_intro rfl rfl can_NewBufferI (callF hnew (by simp only [go_sem]) ?_)
  intro v N hv
  obtain ⟨i, be, js, xl, e, hx, hbd⟩ := HB.frame (L := [⟨2, [.agg [.nilS, .nilS]]⟩]) hv
  rw [e]
  generalize N.map (ownB ([⟨2, [.agg [.nilS, .nilS]]⟩] : List Blk).length) = Z at *
  have hcell := hx.x.cell
  have hx1 := hx.ext [⟨2, [.agg [.sl i (0 : Nat) 0 (0 : Nat) (0 : Nat), be]]⟩]
  repeat' (first | with_reducible first | refine kI (by kernel_rfl) ?_ | simp -implicitDefEqProofs (disch := omega) only [go_sem, Nat.reduceAdd, Nat.reduceSub, reduceCtorEq, Nat.reduceLT, Nat.reduceLeDiff, Nat.reduceEqDiff, ↓reduceIte, if_pos, if_neg, Tryz.ntmps15, Tryz.results15,  hcell, ha, q1])
  refine LoopQ.mix (fun t0 L0 nn ss => ∃ (n : Nat) (W : List Blk) (i : Nat) (be : AV) (js : List Nat) (xl : List Px) (B : Bf) (_ : Unit), (∃ x : Nat → AV, ss = ⟨mixL 0 (.k :: .k :: .k :: .k :: .k :: .s :: .k :: .k :: .k :: .k :: .v (i64 (n : Nat)) :: .s :: .s :: .s :: .s :: .s :: .s :: .s :: .s :: .s :: .s :: .k :: []) t0 x, W⟩) ∧ (n ≤ l.length) ∧ (B = aftB bf0 (l.take n)) ∧ (bufOK B = true) ∧ (AfS W (Z.length + 1) i be js xl B) ∧ nn = l.length - n) ?_ ?_
  · refine ⟨_, 0, _, i, be, js, xl, bf0, (), mixJ rfl rfl, Nat.zero_le _, rfl, ok_bf0, ⟨rfl, ?_, hx1, by omega, fun b hb => ?_⟩, rfl⟩
    · simp; rfl
    · have := (hbd b hb).1; simp at this; omega
  · rintro I0 hI0 nn ss ⟨n, W, i, be, js, xl, B, _, ⟨y, rfl⟩, g1, g2, g3, g4, rfl⟩
    have g5 := g4.x.x.cell
    have g6 := g4.b
    by_cases hi : n < l.length
    · have hii : (n : Int) < (l.length : Int) := by omega
      have hga := getD_acs (t := 1) hi
      have hav := hval _ (mem_ac hi)
      have htk := take_ac hi
      have hok := app_ok (a := l.getD n ac0) g3
      have e2 := aftB_snoc bf0 (l.take n) (l.getD n ac0)
      rw [← htk, ← g2] at e2
      have hcall := hap B (l.getD n ac0) g3 hav
      generalize l.getD n ac0 = a at *
      obtain ⟨k, w⟩ := a
      dsimp only at hga hcall hok e2
      have y1 := fun Y : List Blk => get_ext g6 Y
      repeat' (first | with_reducible first | refine kI (by kernel_rfl) ?_ | simp -implicitDefEqProofs (disch := omega) only [go_sem, Nat.reduceAdd, Nat.reduceSub, reduceCtorEq, Nat.reduceLT, Nat.reduceLeDiff, Nat.reduceEqDiff, ↓reduceIte, List.take_of_length_le, if_pos, if_neg, getD_exs, evApp_st0, cnE, cnV, Tryz.ntmps15, Tryz.results15,  hii, hga, y1, n3, opQ_none])
      have hxa := g4.x.ext [⟨2, [.agg [.int .i64 k, ints 1 w]]⟩]
      have hxc := hxa.c
      have hxe := hxa.exp
      refine InlK_intro rfl rfl can_applyActI (callF hcall (by simp -implicitDefEqProofs (disch := omega) only [go_sem, ints, List.take_of_length_le, hxc, hxe]) ?_)
      intro v N hv
      obtain ⟨x, e, i', be', js', xl', rfl, hx', hbd'⟩ := AK.frame (L := W ++ [⟨2, [.agg [.int .i64 k, ints 1 w]]⟩]) hv
      rw [e]
      have hc' := hx'.x.cell
      rw [List.append_assoc] at hx'
      generalize N.map (ownB (W ++ [⟨2, [.agg [.int .i64 k, ints 1 w]]⟩] : List Blk).length) = Y at *
      have hpl := (List.getElem?_eq_some_iff.1 g6).1
      have sp : ∀ (K : Blk) (Z2 : List Blk), (W ++ Z2).set (Z.length + 1) K = W.set (Z.length + 1) K ++ Z2 := fun K Z2 => List.set_append_left _ _ hpl
      have hid : ∀ b ∈ i' :: (js' ++ pxI xl'), W.length + 1 ≤ b := fun b hb => by have := (hbd' b hb).1; simpa using this
      repeat' (first | with_reducible first | refine kI (by kernel_rfl) ?_ | simp -implicitDefEqProofs (disch := omega) only [go_sem, Nat.reduceAdd, Nat.reduceSub, reduceCtorEq, Nat.reduceLT, Nat.reduceLeDiff, Nat.reduceEqDiff, ↓reduceIte, List.take_of_length_le, if_pos, if_neg, getD_exs, evApp_st0, cnE, cnV, Tryz.ntmps15, Tryz.results15,  hc', y1, sp])
      refine ⟨l.length - (n + 1), by omega, hI0 _ _ ⟨n + 1, _, i', be', js', xl', (appF B ⟨k, w⟩).1, (), mixJ rfl rfl, hi, e2.symm, hok, ⟨get_ext (by rw [List.getElem?_set_ne (by omega)]; exact g4.r) _, get_ext (List.getElem?_set_self hpl) _, hx'.same fun b hb => ?_, g4.p0, fun b hb => by have := hid b hb; omega⟩, rfl⟩⟩
      have := hid b hb
      rw [List.getElem?_append_right (by rw [List.length_set]; omega), List.getElem?_append_right (by omega), List.length_set]
      rfl
    · obtain rfl : n = l.length := by omega
      rw [List.take_length] at g2
      rw [← g2]
      have s1 : ∀ K : Blk, (W.set 0 K)[0]? = some K := fun K => List.getElem?_set_self (by have := (List.getElem?_eq_some_iff.1 g4.r).1; exact this)
      repeat' (first | with_reducible first | refine kI (by kernel_rfl) ?_ | simp -implicitDefEqProofs (disch := omega) only [go_sem, Nat.reduceAdd, Nat.reduceSub, reduceCtorEq, Nat.reduceLT, Nat.reduceLeDiff, Nat.reduceEqDiff, ↓reduceIte, List.take_of_length_le, if_pos, if_neg, getD_exs, evApp_st0, cnE, cnV, Tryz.ntmps15, Tryz.results15,  g6, g5, g4.r, s1])
      exact ⟨i, be, js, xl, rfl, g4.x.same (fun b hb => by rw [List.getElem?_set_ne (Ne.symm (g4.d b hb))]), fun b hb => ⟨Nat.zero_le _, g4.x.lt b hb⟩⟩
def BufX : Prop := ∀ s : ByteArray, s.size < 4294967281 → ISpec Tryz.prog 15 [.str s] [] (fun r L' => HB 0 L'.length L' r (aftB bf0 (actsF 60 s.data.toList)))
theorem can_BufferAfterI : CanCall Tryz.prog 15 := ⟨_, Tryz.func15, rfl, rfl⟩
theorem mkd_B {B : Bf} (hok : bufOK B = true) (k : Int) (hk : 0 ≤ k ∧ k ≤ 1000) : gHeldB (mkB k B) k = some (nb k B) ∧ 0 ≤ nb k B := by
  obtain ⟨h1, h2, h3⟩ := bufOK_iff.1 hok
  have h60 := (memOK_iff.1 h1).1
  have hlm : (mkB k B).e.length = B.e.length := mkL_len _ _ _ _
  have hb : ∀ i, i < B.e.length → (B.e.getD i ex0).v.sh.length ≤ 1000 ∧ (B.e.getD i ex0).v.st.length ≤ 1000 := fun i hi => by
    have hv := (exOK_iff.1 (h3 i hi)).2.1
    have := (shape_facts (vOK hv).1).1
    have := (vOK hv).2
    exact ⟨by omega, by omega⟩
  have hkeep := mkL_keep (m := me1) (n := ne1) (f := fun x : Ex => (x.v.sh.length, x.v.st.length)) (fun k x => by simp [me1, mks_len]) (k + B.c.length) B.e
  have hge : ∀ i, i < B.e.length → (((mkB k B).e.getD i ex0).v.sh.length, ((mkB k B).e.getD i ex0).v.st.length) = ((B.e.getD i ex0).v.sh.length, (B.e.getD i ex0).v.st.length) := fun i hi => by
    have := congrArg (fun l : List (Nat × Nat) => l.getD i (0, 0)) hkeep
    have hi2 : i < (mkB k B).e.length := by omega
    simpa [mkB, hi, show i < (mkL me1 ne1 (k + B.c.length) B.e).length from hi2] using this
  have hcl : (mkB k B).c.length = B.c.length := mks_len _ _
  have hnb : nb k (mkB k B) = nb k B := by
    unfold nb
    rw [hcl]
    exact nxL_mk ne1_mk _ _
  refine ⟨?_, ?_⟩
  · rw [← hnb]
    refine gHeldB_eq ⟨⟨by omega, by omega, fun i hi => ?_⟩, hk, by rw [hcl]; rfl, by rw [hcl]; exact mkdL_mk ne1_mk me1_mk _ _⟩
    have h4 := hge i (by omega)
    have h5 := hb i (by omega)
    simp only [Prod.mk.injEq] at h4
    omega
  · have := (nxL_le (n := ne1) (k := k + B.c.length) (l := B.e) (c := 2003) (by
      intro a ha k
      obtain ⟨j, hj, rfl⟩ := List.mem_iff_getElem.1 ha
      have := hb j hj
      rw [show B.e.getD j ex0 = B.e[j] by simp [hj]] at this
      unfold ne1
      omega)).1
    unfold nb
    omega
def MkBB : Prop := ∀ (B : Bf) (k : Int) (i : Nat) (be : AV) (js : List Nat) (xl : List Px) (L : List Blk), HBx L i be js xl B → bfM B → 0 ≤ k ∧ k ≤ 10000000 → ISpec Tryz.prog 42 [.agg [.sl i B.c.length 0 B.c.length B.c.length, be], i64 k] L (fun r L' => r = i64 (nb k B) ∧ HBx L' i be js (mkL me1P ne1P (k + B.c.length) xl) (mkB k B) ∧ L.length ≤ L'.length ∧ ∀ q, q < L.length → q ∉ i :: (js ++ pxI xl) → L'[q]? = L[q]?)
set_option maxHeartbeats 8000000 in
set_option maxRecDepth 100000 in
theorem law_ExactBufferAfter {Sg Sd : FuncId → Option (List AV → Option AV)} (hS : Sound Tryz.prog Sg) (hD : Sound Tryz.prog Sd) (n0 : Sg 17 = none) (n1 : Sg 15 = none) (he : Sg 41 = some (F2 gEqB)) (n2 : Sg 42 = none) (hh : Sg 43 = some (F2 gHeldB)) (hsp : AftS) (him : BufX) (hm : MkBB) : ∀ a r, F1 gTrueS a = some r → CSpec Tryz.prog 11 a r := by
  refine F1_spec ?_
  intro s r hr
  obtain ⟨g1, rfl⟩ := gd_some hr
  refine law3 Tryz.func11 rfl Tryz.pf hS hD ?_
  by_cases hb : 1048576 < s.size
  · have hb' : (1048576 : Int) < (s.size : Int) := by omega
    repeat' (first | with_reducible first | refine kI (by kernel_rfl) ?_ | refine kN (by kernel_rfl) ?_ | simp -implicitDefEqProofs (disch := omega) only [go_sem, Nat.reduceAdd, Nat.reduceSub, reduceCtorEq, Nat.reduceLT, Nat.reduceLeDiff, Nat.reduceEqDiff, ↓reduceIte, if_pos, if_neg, Tryz.ntmps11, Tryz.results11,  hb'])
  · have hb' : ¬ (1048576 : Int) < (s.size : Int) := by omega
    have hsi := him s (by omega)
    have hss := fun L => hsp s (by omega) L
    have hok : bufOK (aftB bf0 (actsF 60 s.data.toList)) = true := aft_ok _ ok_bf0
    generalize aftB bf0 (actsF 60 s.data.toList) = B at *
    have qe := gEqB_eq (bfB_of hok) (bfB_of hok)
    rw [decide_eq_true rfl] at qe
    obtain ⟨qh, w1⟩ := mkd_B hok 1 (by omega)
    have w2 : ¬ (nb 1 B < 0) := by omega
    have hm1 := fun i be js xl L h => hm B 1 i be js xl L h (bfM_of hok) (by omega)
    obtain ⟨c, e⟩ := B
    dsimp only at hm1
    have hE : (mkB 1 ⟨c, e⟩).e = mkL me1 ne1 (1 + (c.length : Int)) e := rfl
    repeat' (first | with_reducible first | refine kI (by kernel_rfl) ?_ | refine kN (by kernel_rfl) ?_ | simp -implicitDefEqProofs (disch := omega) only [go_sem, Nat.reduceAdd, Nat.reduceSub, reduceCtorEq, Nat.reduceLT, Nat.reduceLeDiff, Nat.reduceEqDiff, ↓reduceIte, if_pos, if_neg, Tryz.ntmps11, Tryz.results11,  hb', n0, opQ_none])
    refine InlK_intro rfl rfl can_BufferAfterS ((hss _).mono ?_)
    rintro r L1 ⟨rfl, rfl⟩
    repeat' (first | with_reducible first | refine kI (by kernel_rfl) ?_ | refine kN (by kernel_rfl) ?_ | simp -implicitDefEqProofs (disch := omega) only [go_sem, Nat.reduceAdd, Nat.reduceSub, reduceCtorEq, Nat.reduceLT, Nat.reduceLeDiff, Nat.reduceEqDiff, ↓reduceIte, if_pos, if_neg, Tryz.ntmps11, Tryz.results11,  n1, opQ_none])
    refine InlK_intro rfl rfl can_BufferAfterI (callF hsi (by simp only [go_sem]) ?_)
    intro v N hv
    obtain ⟨i, be, js, xl, e1, hx, hbd⟩ := HB.frame (L := [⟨2, [bfA 1 ⟨c, e⟩]⟩]) hv
    rw [e1]
    obtain ⟨X, hX⟩ : ∃ X, [⟨2, [bfA 1 ⟨c, e⟩]⟩] ++ N.map (ownB ([⟨2, [bfA 1 ⟨c, e⟩]⟩] : List Blk).length) = X := ⟨_, rfl⟩
    rw [hX] at hx ⊢
    have x0 : X[0]? = some ⟨2, [bfA 1 ⟨c, e⟩]⟩ := by rw [← hX]; rfl
    have hid : ∀ b ∈ i :: (js ++ pxI xl), 1 ≤ b := fun b hb => (hbd b hb).1
    have hidl := hx.lt
    have hcell := hx.x.cell
    clear hX hbd
    have hxa := hx.ext [⟨2, [.agg [.sl i c.length 0 c.length c.length, be]]⟩]
    have hxc := hxa.c
    have hxe := hxa.exp
    dsimp only at hxc hxe
    have y0 := fun Z : List Blk => get_ext x0 Z
    have hX1 : X.length ≤ (X ++ [(⟨2, [.agg [.sl i c.length 0 c.length c.length, be]]⟩ : Blk)]).length := by simp
    have htk : ∀ A : Blk, (X ++ [A]).take (X.length + 1) = X ++ [A] := fun A => List.take_of_length_le (by simp)
    repeat' (first | with_reducible first | refine kI (by kernel_rfl) ?_ | refine kN (by kernel_rfl) ?_ | simp -implicitDefEqProofs (disch := omega) only [go_sem, Nat.reduceAdd, Nat.reduceSub, reduceCtorEq, Nat.reduceLT, Nat.reduceLeDiff, Nat.reduceEqDiff, ↓reduceIte, if_pos, if_neg, Tryz.ntmps11, Tryz.results11,  hcell, y0, htk, hxc, hxe, he, qe, n2, opQ_none])
    refine InlK_intro rfl rfl can_markB ((hm1 i be js xl _ hxa).mono ?_)
    rintro r L1 ⟨rfl, m1, m2, m3⟩
    rw [List.length_append] at m2 m3
    have z0 : L1[0]? = some ⟨2, [bfA 1 ⟨c, e⟩]⟩ := by rw [m3 0 (by simp) fun h => by have := hid 0 h; omega]; exact y0 _
    have z1 : L1[X.length]? = some ⟨2, [.agg [.sl i c.length 0 c.length c.length, be]]⟩ := by rw [m3 X.length (by simp) fun h => by have := hidl _ h; omega]; simp
    have m4 := m1.c
    have m5 := m1.exp
    rw [hE] at m5
    have m6 : (mkB 1 ⟨c, e⟩).c = mks 1 c.length := rfl
    rw [m6] at m4
    have hqB : mkB 1 ⟨c, e⟩ = ⟨mks 1 c.length, mkL me1 ne1 (1 + (c.length : Int)) e⟩ := rfl
    rw [hqB] at qh
    repeat' (first | with_reducible first | refine kI (by kernel_rfl) ?_ | refine kN (by kernel_rfl) ?_ | simp -implicitDefEqProofs (disch := omega) only [go_sem, Nat.reduceAdd, Nat.reduceSub, reduceCtorEq, Nat.reduceLT, Nat.reduceLeDiff, Nat.reduceEqDiff, ↓reduceIte, if_pos, if_neg, Tryz.ntmps11, Tryz.results11,  z0, z1, m4, m5, mks_len, mks_take, hh, qh, w2, n1, opQ_none])
    refine InlK_intro rfl rfl can_BufferAfterI (callF hsi (by simp only [go_sem]) ?_)
    intro v2 N2 hv2
    obtain ⟨i2, be2, js2, xl2, e2, hx2, hbd2⟩ := HB.frame (L := L1) hv2
    rw [e2]
    generalize N2.map (ownB L1.length) = Y2 at *
    have hcell2 := hx2.x.cell
    have hxb := hx2.ext [⟨2, [.agg [.sl i2 c.length 0 c.length c.length, be2]]⟩]
    rw [List.append_assoc] at hxb
    have hxc2 := hxb.c
    have hxe2 := hxb.exp
    dsimp only at hxc2 hxe2
    have u0 := fun Z : List Blk => get_ext z0 Z
    have u1 := fun Z : List Blk => get_ext z1 Z
    have u4 := fun Z : List Blk => get_ext m4 Z
    have u5 := fun Z : List Blk => (m1.ext Z).exp
    rw [hE] at u5
    have htk2 : ∀ A : Blk, (L1 ++ (Y2 ++ [A])).take (L1.length + (Y2.length + 1)) = L1 ++ (Y2 ++ [A]) := fun A => List.take_of_length_le (by simp)
    repeat' (first | with_reducible first | refine kI (by kernel_rfl) ?_ | refine kN (by kernel_rfl) ?_ | simp -implicitDefEqProofs (disch := omega) only [go_sem, Nat.reduceAdd, Nat.reduceSub, reduceCtorEq, Nat.reduceLT, Nat.reduceLeDiff, Nat.reduceEqDiff, ↓reduceIte, if_pos, if_neg, Tryz.ntmps11, Tryz.results11,  hcell2, htk2, u0, u1, u4, u5, hxc2, hxe2, he, qe, mks_len, mks_take, hh, qh, w2])
    done
end Go.Proofs.YtkmnepmnjpdpkaaGreatDoor
