/- Contracts of functions that the laws of this seat call. -/
import Derived.Test.YtgpflkmelindfaaWl
set_option linter.all false
namespace Go.Proofs.Ytgpflkmelindfaa
open Go Go.Ev Go.RowKit Go.Ev.Enc Go.Pl

/-! ### flipped twice -/
theorem flip_ind {n : Int} (hn : 0 ≤ n) : indF n flipS = lineF (n - 1) (-1) n.toNat := by
  have e : indR n flipS = ⟨n - 1, -1, -1⟩ := by
    unfold indR flipS
    simp
  unfold indF
  rw [e]
  refine numL_line n.toNat (n - 1) (fun k hk => .inr ⟨show (-1 : Int) < 0 by omega, ?_⟩) ?_
  · show -1 < n - 1 + (k : Int) * -1
    omega
  · unfold goesOn
    show ¬ ((0 : Int) < -1 ∧ _ ∨ (-1 : Int) < 0 ∧ -1 < n - 1 + (n.toNat : Int) * -1)
    omega
theorem set_self {l : List Int} {d : Nat} (h : d < l.length) : l.set d (l.getD d 0) = l := by
  simp [h]
theorem flip_sh {v : Vi} (h : viewOK v = true) {d : Nat} (hd : d < v.sh.length) : (slcF v d (indF (v.sh.getD d 0) flipS)).sh = v.sh := by
  have hn := dim_at h hd
  rw [slc_sh, flip_ind hn.1, lineF_len, Int.toNat_of_nonneg hn.1, set_self hd]
theorem flip_ok {v : Vi} (h : viewOK v = true) {d : Nat} (hd : d < v.sh.length) : viewOK (slcF v d (indF (v.sh.getD d 0) flipS)) = true := by
  have hn := dim_at h hd
  exact slc_ok h hd (ind_rng hn.1) (ind_len hn.1 (by decide)) (ind_ap _ _)
theorem flip_cell {v : Vi} (h : viewOK v = true) {d : Nat} (hd : d < v.sh.length) (hz : ¬ prodW v.sh = 0) {x : List Int} (hx : vIx v.sh x) :
    offP (slcF v d (indF (v.sh.getD d 0) flipS)) x v.sh.length = offP v (x.set d (v.sh.getD d 0 - 1 - x.getD d 0)) v.sh.length ∧ vIx v.sh (x.set d (v.sh.getD d 0 - 1 - x.getD d 0)) := by
  have hn := dim_at h hd
  have hxd := hx.2 d hd
  have e0 : v.sh.set d ((indF (v.sh.getD d 0) flipS).length : Int) = v.sh := by
    rw [flip_ind hn.1, lineF_len, Int.toNat_of_nonneg hn.1, set_self hd]
  have e1 : (indF (v.sh.getD d 0) flipS).getD (x.getD d 0).toNat 0 = v.sh.getD d 0 - 1 - x.getD d 0 := by
    rw [flip_ind hn.1, lineF_at (by omega), Int.toNat_of_nonneg hxd.1]
    omega
  have := slc_cell (x := x) h hd (ind_ap (v.sh.getD d 0) flipS) (by rw [e0]; exact hx) (by rw [e0]; exact hz)
  rw [e1] at this
  have h2 := slc_vix (x := x) hd (ind_rng (n := v.sh.getD d 0) (s := flipS) hn.1) (by rw [e0]; exact hx)
  rw [e1] at h2
  exact ⟨this, h2⟩
theorem flip_twice {v : Vi} (h : viewOK v = true) {d : Nat} (hd : d < v.sh.length) :
    sameF (slcF (slcF v d (indF (v.sh.getD d 0) flipS)) d (indF ((slcF v d (indF (v.sh.getD d 0) flipS)).sh.getD d 0) flipS)) v = true := by
  have h1 := flip_ok h hd
  have s1 := flip_sh h hd
  have c1 := fun hz x hx => flip_cell h hd hz (x := x) hx
  generalize slcF v d (indF (v.sh.getD d 0) flipS) = w at *
  have hd1 : d < w.sh.length := by rw [s1]; exact hd
  have h2 := flip_ok h1 hd1
  have s2 := flip_sh h1 hd1
  have c2 := fun hz x hx => flip_cell h1 hd1 hz (x := x) hx
  generalize slcF w d (indF (w.sh.getD d 0) flipS) = u at *
  rw [s1] at c2 s2
  refine sameF_iff.2 ⟨⟨h2, h⟩, s2, ?_⟩
  by_cases hz : prodW v.sh = 0
  · rw [offF_zero hz, offF_zero (by rw [s2]; exact hz)]
  · obtain ⟨k1, k2, k3, k4, k5⟩ := viewOK_iff.1 h
    have hp := shape_posV k1 hz
    have hi := (shape_facts k1).2.1
    have eu : ∀ k : Nat, offW u (unrF v.sh (k : Int)) v.sh.length = offW v (unrF v.sh (k : Int)) v.sh.length := fun k => by
      have hx := unr_ix hi hp k
      have hxd := hx.2 d hd
      have a1 := offW_ix h2 (x := unrF v.sh (k : Int)) (by rw [s2]; exact hx)
      rw [s2] at a1
      rw [a1, offW_ix h hx]
      obtain ⟨b1, b2⟩ := c2 hz _ hx
      obtain ⟨b3, b4⟩ := c1 hz _ b2
      rw [b1, b3, getD_set_eq (by rw [hx.1]; exact hd), List.set_set]
      congr 1
      rw [show v.sh.getD d 0 - 1 - (v.sh.getD d 0 - 1 - (unrF v.sh (k : Int)).getD d 0) = (unrF v.sh (k : Int)).getD d 0 by omega]
      exact set_self (by rw [hx.1]; exact hd)
    unfold offF
    rw [s2]
    exact List.map_congr_left fun k _ => eu k
theorem flip_cells {v : Vi} (h : viewOK v = true) {d : Nat} (hd : d < v.sh.length) : srt (offF (slcF v d (indF (v.sh.getD d 0) flipS))) = srt (offF v) := by
  have h1 := flip_ok h hd
  have s1 := flip_sh h hd
  have hn := dim_at h hd
  have hs := (sameF_iff.1 (flip_twice h hd)).2.2
  refine asc_ext (srt_asc _) (srt_asc _) fun x => ?_
  rw [srt_mem, srt_mem]
  constructor
  · exact slc_mem h hd (ind_rng hn.1) (ind_len hn.1 (by decide)) (ind_ap _ _)
  · intro hx
    rw [← hs] at hx
    have hd1 : d < (slcF v d (indF (v.sh.getD d 0) flipS)).sh.length := by rw [s1]; exact hd
    have hn1 := dim_at h1 hd1
    exact slc_mem h1 hd1 (ind_rng hn1.1) (ind_len hn1.1 (by decide)) (ind_ap _ _) hx
theorem sli_some {v : Vi} {d : Int} {s : Sl} : sliF v d s = if (sliR v d s).2 = true then some (sliR v d s).1 else none := by
  unfold sliF sliR
  by_cases h : viewOK v = true ∧ inR d 0 (v.sh.length - 1) = true ∧ slOK s = true
  · rw [if_pos h, if_pos h, if_pos rfl]
    obtain ⟨m, rfl, hm⟩ := dim_nat h.2.1
    rw [Int.toNat_natCast]
    exact cut_made h.1 hm h.2.2
  · rw [if_neg h, if_neg h]
    rfl
def DrDim (f : FuncId) : Prop := ∀ (bs : List UInt8), bs.length ≤ 1048576 → ∀ L : List Blk, ISpec Try.prog f [bytesA 0 bs] L fun r L' => ∃ (v : Vi) (d : Int), viOK v ∧ r = .tup [viD v, i64 d] ∧ L' = L
theorem can_DrawFlipDim : CanCall Try.prog 9 := ⟨_, Try.func9, rfl, rfl⟩
theorem ok_viB {v : Vi} (h : viewOK v = true) : viB v := ⟨by have := (shape_facts (vOK h).1).1; omega, by have := (shape_facts (vOK h).1).1; have := (vOK h).2; omega⟩
theorem zero_viB : viB ⟨0, [], []⟩ := by decide
set_option maxHeartbeats 8000000 in
set_option maxRecDepth 100000 in
theorem law_FlipDim {Sg Sd : FuncId → Option (List AV → Option AV)} (hS : Sound Try.prog Sg) (hD : Sound Try.prog Sd) (n1 : Sg 9 = none) (n2 : Sg 11 = none) (h1 : Sg 10 = some (F2 gFlipT)) (h2 : Sg 12 = some (F2 gEqV)) (h3 : Sd 13 = some (F2 gSame)) (h4 : Sd 15 = some (F1 gCellsT)) (h5 : Sd 14 = some (F2 gEqInts)) (hDr : DrDim 9) (hfl : FlipV) : ∀ a r, F1 gTrueW a = some r → CSpec Try.prog 3 a r := by
  refine F1_spec ?_
  intro bs r hr
  obtain ⟨g1, rfl⟩ := gd_some hr
  refine law3 Try.func3 rfl Try.pf hS hD ?_
  by_cases hb : 1048576 < bs.length
  · repeat' (first | with_reducible first | refine kI (by kernel_rfl) ?_ | refine kN (by kernel_rfl) ?_ | (first | refine kB1 ?_ ?_ | refine kB2 ?_ ?_) <;> intro hp | (first | refine kD1 ?_ ?_ | refine kD2 ?_ ?_ | refine kS1 ?_ ?_ | refine kS2 ?_ ?_) <;> intro hp <;> try simp only [hp] | simp -implicitDefEqProofs (disch := omega) only [go_sem, Nat.reduceAdd, Nat.reduceSub, reduceCtorEq, Nat.reduceLT, Nat.reduceLeDiff, Nat.reduceEqDiff, Nat.reduceMul, Int.reduceToNat, ↓reduceIte, List.take_of_length_le, if_pos, if_neg, List.getElem?_set_self, List.set_set, cnE, cnV, Try.ntmps3, Try.results3])
  · repeat' (first | with_reducible first | refine kI (by kernel_rfl) ?_ | refine kN (by kernel_rfl) ?_ | (first | refine kB1 ?_ ?_ | refine kB2 ?_ ?_) <;> intro hp | (first | refine kD1 ?_ ?_ | refine kD2 ?_ ?_ | refine kS1 ?_ ?_ | refine kS2 ?_ ?_) <;> intro hp <;> try simp only [hp] | simp -implicitDefEqProofs (disch := omega) only [go_sem, Nat.reduceAdd, Nat.reduceSub, reduceCtorEq, Nat.reduceLT, Nat.reduceLeDiff, Nat.reduceEqDiff, Nat.reduceMul, Int.reduceToNat, ↓reduceIte, List.take_of_length_le, if_pos, if_neg, List.getElem?_set_self, List.set_set, cnE, cnV, Try.ntmps3, Try.results3,  n1, opQ_none])
    refine InlK_intro rfl rfl can_DrawFlipDim ((hDr bs (by omega) _).mono ?_)
    rintro r L1 ⟨v, d, ⟨k1, k2⟩, rfl, rfl⟩
    have hvb : viB v := ⟨by omega, by omega⟩
    have q1 := gFlipT_eq hvb d
    have hss := sli_some (v := v) (d := d) (s := flipS)
    by_cases hc : viewOK v = true ∧ inR d 0 (v.sh.length - 1) = true ∧ slOK flipS = true
    · obtain ⟨e1, e2, -⟩ := hc
      have e3 : sliR v d flipS = (slcF v d.toNat (indF (v.sh.getD d.toNat 0) flipS), true) := by unfold sliR; rw [if_pos ⟨e1, e2, flipS_ok⟩]
      rw [e3] at q1 hss
      obtain ⟨m, rfl, hm⟩ := dim_nat e2
      rw [Int.toNat_natCast] at q1 hss
      have o1 := flip_ok e1 hm
      have s1 := flip_sh e1 hm
      have t1 := flip_twice e1 hm
      have z1 := flip_cells e1 hm
      generalize slcF v m (indF (v.sh.getD m 0) flipS) = w at *
      have hwb := ok_viB o1
      have q2 : gEqV w w = some true := (gEqV_eq ⟨hwb, hwb⟩).trans (by simp)
      have q3 := gFlipT_eq hwb (m : Int)
      have e4 : sliR w (m : Int) flipS = (slcF w m (indF (w.sh.getD m 0) flipS), true) := by
        unfold sliR
        rw [if_pos ⟨o1, by rw [s1]; exact e2, flipS_ok⟩, Int.toNat_natCast]
      rw [e4] at q3
      have o2 := (sameF_iff.1 t1).1.1
      generalize slcF w m (indF (w.sh.getD m 0) flipS) = u at *
      have q4 := gSame_eq (a := u) (b := v) ⟨ok_viB o2, hvb⟩
      rw [t1] at q4
      have q5 := gCellsT_eq hwb
      have q6 := gCellsT_eq hvb
      rw [o1, if_pos rfl, z1] at q5
      rw [e1, if_pos rfl] at q6
      have hl := offF_60 (vOK e1).1
      have hsl := srt_len (offF v)
      have q7 : gEqInts (srt (offF v)) (srt (offF v)) = some true := (gEqInts_eq ⟨by omega, by omega⟩).trans (by simp)
      have q8 : gEqInts w.sh v.sh = some true := (gEqInts_eq ⟨by rw [s1]; omega, by omega⟩).trans (by rw [s1]; simp)
      have hw4 := (shape_facts (vOK o1).1).1
      have hw5 := (vOK o1).2
      repeat' (first | with_reducible first | refine kI (by kernel_rfl) ?_ | refine kN (by kernel_rfl) ?_ | (first | refine kB1 ?_ ?_ | refine kB2 ?_ ?_) <;> intro hp | (first | refine kD1 ?_ ?_ | refine kD2 ?_ ?_ | refine kS1 ?_ ?_ | refine kS2 ?_ ?_) <;> intro hp <;> try simp only [hp] | simp -implicitDefEqProofs (disch := omega) only [go_sem, Nat.reduceAdd, Nat.reduceSub, reduceCtorEq, Nat.reduceLT, Nat.reduceLeDiff, Nat.reduceEqDiff, Nat.reduceMul, Int.reduceToNat, ↓reduceIte, List.take_of_length_le, if_pos, if_neg, List.getElem?_set_self, List.set_set, cnE, cnV, Try.ntmps3, Try.results3,  h1, q1, n2, opQ_none])
      refine InlK_intro rfl rfl can_FlipDim ((hfl v (m : Int) ⟨k1, k2⟩).call (by simp only [go_sem, ints]) ?_)
      rw [hss, if_pos rfl]
      simp only [mdR, mdN]
      repeat' (first | with_reducible first | refine kI (by kernel_rfl) ?_ | refine kN (by kernel_rfl) ?_ | (first | refine kB1 ?_ ?_ | refine kB2 ?_ ?_) <;> intro hp | (first | refine kD1 ?_ ?_ | refine kD2 ?_ ?_ | refine kS1 ?_ ?_ | refine kS2 ?_ ?_) <;> intro hp <;> try simp only [hp] | simp -implicitDefEqProofs (disch := omega) only [go_sem, Nat.reduceAdd, Nat.reduceSub, reduceCtorEq, Nat.reduceLT, Nat.reduceLeDiff, Nat.reduceEqDiff, Nat.reduceMul, Int.reduceToNat, ↓reduceIte, List.take_of_length_le, if_pos, if_neg, List.getElem?_set_self, List.set_set, cnE, cnV, Try.ntmps3, Try.results3,  h1, q1, h2, q2, q3, h3, q4, h4, q5, q6, h5, q7, q8])
    · have e3 : sliR v d flipS = (⟨0, [], []⟩, false) := by unfold sliR; rw [if_neg hc]
      rw [e3] at q1 hss
      have q2 : gEqV ⟨0, [], []⟩ ⟨0, [], []⟩ = some true := (gEqV_eq ⟨zero_viB, zero_viB⟩).trans (by simp)
      repeat' (first | with_reducible first | refine kI (by kernel_rfl) ?_ | refine kN (by kernel_rfl) ?_ | (first | refine kB1 ?_ ?_ | refine kB2 ?_ ?_) <;> intro hp | (first | refine kD1 ?_ ?_ | refine kD2 ?_ ?_ | refine kS1 ?_ ?_ | refine kS2 ?_ ?_) <;> intro hp <;> try simp only [hp] | simp -implicitDefEqProofs (disch := omega) only [go_sem, Nat.reduceAdd, Nat.reduceSub, reduceCtorEq, Nat.reduceLT, Nat.reduceLeDiff, Nat.reduceEqDiff, Nat.reduceMul, Int.reduceToNat, ↓reduceIte, List.take_of_length_le, if_pos, if_neg, List.getElem?_set_self, List.set_set, cnE, cnV, Try.ntmps3, Try.results3,  h1, q1, n2, opQ_none])
      refine InlK_intro rfl rfl can_FlipDim ((hfl v d ⟨k1, k2⟩).call (by simp only [go_sem, ints]) ?_)
      rw [hss, if_neg (by simp)]
      simp only [mdR, mdN]
      repeat' (first | with_reducible first | refine kI (by kernel_rfl) ?_ | refine kN (by kernel_rfl) ?_ | (first | refine kB1 ?_ ?_ | refine kB2 ?_ ?_) <;> intro hp | (first | refine kD1 ?_ ?_ | refine kD2 ?_ ?_ | refine kS1 ?_ ?_ | refine kS2 ?_ ?_) <;> intro hp <;> try simp only [hp] | simp -implicitDefEqProofs (disch := omega) only [go_sem, Nat.reduceAdd, Nat.reduceSub, reduceCtorEq, Nat.reduceLT, Nat.reduceLeDiff, Nat.reduceEqDiff, Nat.reduceMul, Int.reduceToNat, ↓reduceIte, List.take_of_length_le, if_pos, if_neg, List.getElem?_set_self, List.set_set, cnE, cnV, Try.ntmps3, Try.results3,  h2, q2])
end Go.Proofs.Ytgpflkmelindfaa
