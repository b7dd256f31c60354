/- Contracts of functions on views and memories that the laws of this seat call. -/
import Derived.Test.YtjmkdnnfhphckaaWA
set_option linter.all false
namespace Go.Proofs.Ytjmkdnnfhphckaa
open Go Go.Ev Go.RowKit Go.Ev.Enc Go.Pl

def DrFill (f : FuncId) : Prop := ∀ (bs : List UInt8), bs.length ≤ 1048576 → ∀ L : List Blk, ISpec Try.prog f [bytesA 0 bs] L fun r L' => ∃ (m : List Int) (v : Vi) (x : Int), m.length ≤ 60 ∧ viOK v ∧ r = .tup [ints 1 m, viD v, i64 x] ∧ L' = L
theorem fill_at {m A V : List Int} {x : Int} (hV : ∀ k, k < A.length → V.getD k 0 = x) (hA : inM A m.length) : ∀ k, k ≤ A.length → ∀ i, i < k → (stoT m A V k).getD (A.getD i 0).toNat 0 = x
  | k + 1, hk, i, hi => by
    obtain ⟨j, hj, hjm⟩ := in_at hA (show i < A.length by omega)
    rw [stoT, hj, Int.toNat_natCast, hV k (by omega)]
    by_cases he : (A.getD k 0).toNat = j
    · rw [he, getD_set_eq (by rw [stoT_len]; exact hjm)]
    · rw [getD_set_ne (Ne.symm he)]
      have hik : i < k := by
        rcases Nat.lt_or_eq_of_le (Nat.le_of_lt_succ hi) with h | h
        · exact h
        · subst h; rw [hj] at he; exact absurd rfl he
      have := fill_at hV hA k (by omega) i hik
      rw [hj, Int.toNat_natCast] at this
      exact this
theorem tkn_atI {m A : List Int} {i : Nat} (h : i < A.length) : (tkn m A).getD i 0 = m.getD (A.getD i 0).toNat 0 := by simp [tkn, h]
theorem eq_nil_t : gEqInts [] [] = some true := (gEqInts_eq (a := []) (b := []) ⟨by decide, by decide⟩).trans rfl
theorem within_srt {C A : List Int} (h : ∀ x ∈ C, x ∈ A) : (C.all fun x => (srt A).contains x) = true := within_mem fun x hx => (srt_mem A x).2 (h x hx)
end Go.Proofs.Ytjmkdnnfhphckaa
namespace Go.Proofs.Ytjmkdnnfhphckaa
open Go Go.Ev Go.RowKit Go.Ev.Enc Go.Pl

def gIndT (n : Int) (s : Sl) : Option (List Int) := gd True (if inR n 0 60 = true ∧ slOK s = true then indF n s else [])
theorem gIndT_eq (n : Int) (s : Sl) : gIndT n s = some (if inR n 0 60 = true ∧ slOK s = true then indF n s else []) := rfl
def gHasDim (v : Vi) (d : Int) : Option Bool := gd (viB v) (viewOK v && inR d 0 (v.sh.length - 1))
theorem gHasDim_eq {v : Vi} (h : viB v) (d : Int) : gHasDim v d = some (viewOK v && inR d 0 (v.sh.length - 1)) := gd_eq h
set_option maxHeartbeats 2000000 in
set_option maxRecDepth 100000 in
theorem isp_cleared {Sg : FuncId → Option (List AV → Option AV)} (hS : Sound Try.prog Sg) (hct : Sg 27 = some (F1 gCountOf)) (v : Vi) (b c : Nat) (L : List Blk) (hb : L[b]? = some (stB v.sh)) (hc : L[c]? = some (stB v.st)) (hv : v.sh.length < 4294967296) {m k : Nat} (hm : v.sh.length = m) (hk : v.st.length = k) : ISpec Try.prog 22 [.agg [i64 v.b, .sl b m 0 m m, .sl c k 0 k k]] L (fun r L' => ∃ X d, c ≤ d ∧ r = viA b d (tidyF v) ∧ L' = L ++ X ∧ (L ++ X)[b]? = some (stB (tidyF v).sh) ∧ (L ++ X)[d]? = some (stB (tidyF v).st)) := by
  refine ISpec.intro Try.func22 rfl (vc_sound Try.pf hS _ _ _ ?_)
  subst hm hk
  have hbl := (List.getElem?_eq_some_iff.1 hb).1
  have hcl := (List.getElem?_eq_some_iff.1 hc).1
  have hbx : ∀ X, (L ++ X)[b]? = some (stB v.sh) := fun X => by rw [List.getElem?_append_left hbl]; exact hb
  have hcx : ∀ X, (L ++ X)[c]? = some (stB v.st) := fun X => by rw [List.getElem?_append_left hcl]; exact hc
  have hbt : ∀ X m, b < m → ((L ++ X).take m)[b]? = some (stB v.sh) := fun X m hm => by rw [List.getElem?_take_of_lt hm, hbx]
  have q2 := gCountOf_eq (l := v.sh) (by omega)
  by_cases e1 : prodW v.sh = 0
  · rw [e1] at q2
    have hn : tidyF v = ⟨0, v.sh, List.replicate v.sh.length 0⟩ := by unfold tidyF; rw [if_pos e1]
    rw [hn]
    repeat' (first | with_reducible first | refine kI (by kernel_rfl) ?_ | refine kN (by kernel_rfl) ?_ | (first | refine kB1 ?_ ?_ | refine kB2 ?_ ?_) <;> intro hp | (first | refine kD1 ?_ ?_ | refine kD2 ?_ ?_ | refine kS1 ?_ ?_ | refine kS2 ?_ ?_) <;> intro hp <;> try simp only [hp] | simp -implicitDefEqProofs (disch := omega) only [go_sem, Nat.reduceAdd, Nat.reduceSub, reduceCtorEq, Nat.reduceLT, Nat.reduceLeDiff, Nat.reduceEqDiff, Nat.reduceMul, Int.reduceToNat, ↓reduceIte, List.take_of_length_le, if_pos, if_neg, List.getElem?_set_self, List.set_set, cnE, cnV, Try.ntmps22, Try.results22,  hbt, hbx, hct, q2])
    exact ⟨_, L.length + 2, by omega, by simp only [List.length_replicate, viA], rfl, by rw [List.getElem?_append_right (by omega), Nat.add_sub_cancel_left]; rfl⟩
  · have e1' : (prodW v.sh == 0) = false := beq_f e1
    have hn : tidyF v = v := by unfold tidyF; rw [if_neg e1]
    rw [hn]
    repeat' (first | with_reducible first | refine kI (by kernel_rfl) ?_ | refine kN (by kernel_rfl) ?_ | (first | refine kB1 ?_ ?_ | refine kB2 ?_ ?_) <;> intro hp | (first | refine kD1 ?_ ?_ | refine kD2 ?_ ?_ | refine kS1 ?_ ?_ | refine kS2 ?_ ?_) <;> intro hp <;> try simp only [hp] | simp -implicitDefEqProofs (disch := omega) only [go_sem, Nat.reduceAdd, Nat.reduceSub, reduceCtorEq, Nat.reduceLT, Nat.reduceLeDiff, Nat.reduceEqDiff, Nat.reduceMul, Int.reduceToNat, ↓reduceIte, List.take_of_length_le, if_pos, if_neg, List.getElem?_set_self, List.set_set, cnE, cnV, Try.ntmps22, Try.results22,  hbt, hct, q2, e1'])
    exact ⟨_, c, Nat.le_refl _, rfl, rfl, hbx _, hcx _⟩
end Go.Proofs.Ytjmkdnnfhphckaa
namespace Go.Proofs.Ytjmkdnnfhphckaa
open Go Go.Ev Go.RowKit Go.Ev.Enc Go.Pl

theorem can_cleared : CanCall Try.prog 22 := ⟨_, Try.func22, rfl, rfl⟩
theorem exp_viA {L : List Blk} {b c : Nat} {v : Vi} (hb : L[b]? = some (stB v.sh)) (hc : L[c]? = some (stB v.st)) : exp 1 L (viA b c v) = .agg [i64 v.b, ints 1 v.sh, ints 1 v.st] := by
  simp [exp, expE, expC, stepC, hb, hc, ints, Function.comp_def, List.take_of_length_le]
def gSliI (v : Vi) (d : Int) (s : Sl) : Option Vi := gd ((viewOK v = true ∧ slOK s = true) ∧ 0 ≤ d ∧ d < v.sh.length) (slcF v d.toNat (indF (v.sh.getD d.toNat 0) s))
theorem gSliI_eq {v : Vi} {d : Nat} {s : Sl} (h : viewOK v = true ∧ slOK s = true) (hd : d < v.sh.length) : gSliI v (d : Int) s = some (slcF v d (indF (v.sh.getD d 0) s)) := gd_eq ⟨h, by omega, by omega⟩
end Go.Proofs.Ytjmkdnnfhphckaa
namespace Go.Proofs.Ytjmkdnnfhphckaa
open Go Go.Ev Go.RowKit Go.Ev.Enc Go.Pl

def sliR (v : Vi) (d : Int) (s : Sl) : Vi × Bool := if viewOK v = true ∧ inR d 0 (v.sh.length - 1) = true ∧ slOK s = true then (slcF v d.toNat (indF (v.sh.getD d.toNat 0) s), true) else (⟨0, [], []⟩, false)
def gSliT (v : Vi) (d : Int) (s : Sl) : Option (Vi × Bool) := gd (viB v) (sliR v d s)
theorem gSliT_eq {v : Vi} (h : viB v) (d : Int) (s : Sl) : gSliT v d s = some (sliR v d s) := gd_eq h
def gFlipT (v : Vi) (d : Int) : Option (Vi × Bool) := gd (viB v) (sliR v d flipS)
theorem gFlipT_eq {v : Vi} (h : viB v) (d : Int) : gFlipT v d = some (sliR v d flipS) := gd_eq h
theorem flipS_ok : slOK flipS = true := by decide
theorem dim_nat {v : Vi} {d : Int} (h : inR d 0 (v.sh.length - 1) = true) : ∃ m : Nat, d = m ∧ m < v.sh.length := by
  unfold inR at h
  simp only [Bool.and_eq_true, decide_eq_true_eq] at h
  exact ⟨d.toNat, by omega, by omega⟩
def gEqV (a b : Vi) : Option Bool := gd (viB2 a b) (decide (a = b))
theorem gEqV_eq {a b : Vi} (h : viB2 a b) : gEqV a b = some (decide (a = b)) := gd_eq h
theorem vi_eq {a b : Vi} : decide (a = b) = (a.b == b.b && (decide (a.sh = b.sh) && decide (a.st = b.st))) := by
  cases a; cases b
  rw [Bool.eq_iff_iff]
  simp
set_option maxHeartbeats 4000000 in
set_option maxRecDepth 100000 in
theorem spec_equalView {Sg : FuncId → Option (List AV → Option AV)} (hS : Sound Try.prog Sg) (he : Sg 11 = some (F2 gEqInts)) : ∀ a r, F2 gEqV a = some r → CSpec Try.prog 7 a r := by
  refine F2_spec ?_
  intro a b r hr0
  obtain ⟨h, rfl⟩ := gd_some hr0
  refine CSpec.intro Try.func7 rfl (own _) (vc3_sound Try.pf hS hS _ _ _ ?_)
  have q1 := gEqInts_eq (a := a.sh) (b := b.sh) ⟨h.1.1, h.2.1⟩
  have q2 := gEqInts_eq (a := a.st) (b := b.st) ⟨h.1.2, h.2.2⟩
  rw [vi_eq]
  cases e1 : (a.b == b.b) with
  | false =>
    repeat' (first | with_reducible first | refine kI (by kernel_rfl) ?_ | refine kN (by kernel_rfl) ?_ | (first | refine kB1 ?_ ?_ | refine kB2 ?_ ?_) <;> intro hp | (first | refine kD1 ?_ ?_ | refine kD2 ?_ ?_ | refine kS1 ?_ ?_ | refine kS2 ?_ ?_) <;> intro hp <;> try simp only [hp] | simp -implicitDefEqProofs (disch := omega) only [go_sem, Nat.reduceAdd, Nat.reduceSub, reduceCtorEq, Nat.reduceLT, Nat.reduceLeDiff, Nat.reduceEqDiff, Nat.reduceMul, Int.reduceToNat, ↓reduceIte, List.take_of_length_le, if_pos, if_neg, List.getElem?_set_self, List.set_set, cnE, cnV, Try.ntmps7, Try.results7,  e1])
    try rfl
  | true =>
    by_cases e2 : a.sh = b.sh
    · rw [decide_eq_true e2] at q1 ⊢
      repeat' (first | with_reducible first | refine kI (by kernel_rfl) ?_ | refine kN (by kernel_rfl) ?_ | (first | refine kB1 ?_ ?_ | refine kB2 ?_ ?_) <;> intro hp | (first | refine kD1 ?_ ?_ | refine kD2 ?_ ?_ | refine kS1 ?_ ?_ | refine kS2 ?_ ?_) <;> intro hp <;> try simp only [hp] | simp -implicitDefEqProofs (disch := omega) only [go_sem, Nat.reduceAdd, Nat.reduceSub, reduceCtorEq, Nat.reduceLT, Nat.reduceLeDiff, Nat.reduceEqDiff, Nat.reduceMul, Int.reduceToNat, ↓reduceIte, List.take_of_length_le, if_pos, if_neg, List.getElem?_set_self, List.set_set, cnE, cnV, Try.ntmps7, Try.results7,  e1, he, q1, q2])
      try rfl
    · rw [decide_eq_false e2] at q1 ⊢
      repeat' (first | with_reducible first | refine kI (by kernel_rfl) ?_ | refine kN (by kernel_rfl) ?_ | (first | refine kB1 ?_ ?_ | refine kB2 ?_ ?_) <;> intro hp | (first | refine kD1 ?_ ?_ | refine kD2 ?_ ?_ | refine kS1 ?_ ?_ | refine kS2 ?_ ?_) <;> intro hp <;> try simp only [hp] | simp -implicitDefEqProofs (disch := omega) only [go_sem, Nat.reduceAdd, Nat.reduceSub, reduceCtorEq, Nat.reduceLT, Nat.reduceLeDiff, Nat.reduceEqDiff, Nat.reduceMul, Int.reduceToNat, ↓reduceIte, List.take_of_length_le, if_pos, if_neg, List.getElem?_set_self, List.set_set, cnE, cnV, Try.ntmps7, Try.results7,  e1, he, q1])
      try rfl
/-! ### draws -/
theorem rc_2b (bs : List UInt8) (L : List Blk) (A B C : Blk) : RC bs (L.length + 2) (L.length + 4) (fun p => L ++ [A, B, rdB bs p, C]) :=
  ⟨fun p => by simp, by omega, fun p => by simp, fun p q => by simp⟩
end Go.Proofs.Ytjmkdnnfhphckaa
namespace Go.Proofs.Ytjmkdnnfhphckaa
open Go Go.Ev Go.RowKit Go.Ev.Enc Go.Pl

/-! ### flipped twice -/
theorem flip_ind {n : Int} (hn : 0 ≤ n) : indF n flipS = lineF (n - 1) (-1) n.toNat := by
  have e : indR n flipS = ⟨n - 1, -1, -1⟩ := by
    unfold indR flipS
    simp
  unfold indF
  rw [e]
  refine numL_line n.toNat (n - 1) (fun k hk => .inr ⟨show (-1 : Int) < 0 by omega, ?_⟩) ?_
  · show -1 < n - 1 + (k : Int) * -1
    omega
  · unfold goesOn
    show ¬ ((0 : Int) < -1 ∧ _ ∨ (-1 : Int) < 0 ∧ -1 < n - 1 + (n.toNat : Int) * -1)
    omega
theorem set_self {l : List Int} {d : Nat} (h : d < l.length) : l.set d (l.getD d 0) = l := by
  simp [h]
theorem flip_sh {v : Vi} (h : viewOK v = true) {d : Nat} (hd : d < v.sh.length) : (slcF v d (indF (v.sh.getD d 0) flipS)).sh = v.sh := by
  have hn := dim_at h hd
  rw [slc_sh, flip_ind hn.1, lineF_len, Int.toNat_of_nonneg hn.1, set_self hd]
theorem flip_ok {v : Vi} (h : viewOK v = true) {d : Nat} (hd : d < v.sh.length) : viewOK (slcF v d (indF (v.sh.getD d 0) flipS)) = true := by
  have hn := dim_at h hd
  exact slc_ok h hd (ind_rng hn.1) (ind_len hn.1 (by decide)) (ind_ap _ _)
theorem flip_cell {v : Vi} (h : viewOK v = true) {d : Nat} (hd : d < v.sh.length) (hz : ¬ prodW v.sh = 0) {x : List Int} (hx : vIx v.sh x) :
    offP (slcF v d (indF (v.sh.getD d 0) flipS)) x v.sh.length = offP v (x.set d (v.sh.getD d 0 - 1 - x.getD d 0)) v.sh.length ∧ vIx v.sh (x.set d (v.sh.getD d 0 - 1 - x.getD d 0)) := by
  have hn := dim_at h hd
  have hxd := hx.2 d hd
  have e0 : v.sh.set d ((indF (v.sh.getD d 0) flipS).length : Int) = v.sh := by
    rw [flip_ind hn.1, lineF_len, Int.toNat_of_nonneg hn.1, set_self hd]
  have e1 : (indF (v.sh.getD d 0) flipS).getD (x.getD d 0).toNat 0 = v.sh.getD d 0 - 1 - x.getD d 0 := by
    rw [flip_ind hn.1, lineF_at (by omega), Int.toNat_of_nonneg hxd.1]
    omega
  have := slc_cell (x := x) h hd (ind_ap (v.sh.getD d 0) flipS) (by rw [e0]; exact hx) (by rw [e0]; exact hz)
  rw [e1] at this
  have h2 := slc_vix (x := x) hd (ind_rng (n := v.sh.getD d 0) (s := flipS) hn.1) (by rw [e0]; exact hx)
  rw [e1] at h2
  exact ⟨this, h2⟩
theorem flip_twice {v : Vi} (h : viewOK v = true) {d : Nat} (hd : d < v.sh.length) :
    sameF (slcF (slcF v d (indF (v.sh.getD d 0) flipS)) d (indF ((slcF v d (indF (v.sh.getD d 0) flipS)).sh.getD d 0) flipS)) v = true := by
  have h1 := flip_ok h hd
  have s1 := flip_sh h hd
  have c1 := fun hz x hx => flip_cell h hd hz (x := x) hx
  generalize slcF v d (indF (v.sh.getD d 0) flipS) = w at *
  have hd1 : d < w.sh.length := by rw [s1]; exact hd
  have h2 := flip_ok h1 hd1
  have s2 := flip_sh h1 hd1
  have c2 := fun hz x hx => flip_cell h1 hd1 hz (x := x) hx
  generalize slcF w d (indF (w.sh.getD d 0) flipS) = u at *
  rw [s1] at c2 s2
  refine sameF_iff.2 ⟨⟨h2, h⟩, s2, ?_⟩
  by_cases hz : prodW v.sh = 0
  · rw [offF_zero hz, offF_zero (by rw [s2]; exact hz)]
  · obtain ⟨k1, k2, k3, k4, k5⟩ := viewOK_iff.1 h
    have hp := shape_posV k1 hz
    have hi := (shape_facts k1).2.1
    have eu : ∀ k : Nat, offW u (unrF v.sh (k : Int)) v.sh.length = offW v (unrF v.sh (k : Int)) v.sh.length := fun k => by
      have hx := unr_ix hi hp k
      have hxd := hx.2 d hd
      have a1 := offW_ix h2 (x := unrF v.sh (k : Int)) (by rw [s2]; exact hx)
      rw [s2] at a1
      rw [a1, offW_ix h hx]
      obtain ⟨b1, b2⟩ := c2 hz _ hx
      obtain ⟨b3, b4⟩ := c1 hz _ b2
      rw [b1, b3, getD_set_eq (by rw [hx.1]; exact hd), List.set_set]
      congr 1
      rw [show v.sh.getD d 0 - 1 - (v.sh.getD d 0 - 1 - (unrF v.sh (k : Int)).getD d 0) = (unrF v.sh (k : Int)).getD d 0 by omega]
      exact set_self (by rw [hx.1]; exact hd)
    unfold offF
    rw [s2]
    exact List.map_congr_left fun k _ => eu k
theorem flip_cells {v : Vi} (h : viewOK v = true) {d : Nat} (hd : d < v.sh.length) : srt (offF (slcF v d (indF (v.sh.getD d 0) flipS))) = srt (offF v) := by
  have h1 := flip_ok h hd
  have s1 := flip_sh h hd
  have hn := dim_at h hd
  have hs := (sameF_iff.1 (flip_twice h hd)).2.2
  refine asc_ext (srt_asc _) (srt_asc _) fun x => ?_
  rw [srt_mem, srt_mem]
  constructor
  · exact slc_mem h hd (ind_rng hn.1) (ind_len hn.1 (by decide)) (ind_ap _ _)
  · intro hx
    rw [← hs] at hx
    have hd1 : d < (slcF v d (indF (v.sh.getD d 0) flipS)).sh.length := by rw [s1]; exact hd
    have hn1 := dim_at h1 hd1
    exact slc_mem h1 hd1 (ind_rng hn1.1) (ind_len hn1.1 (by decide)) (ind_ap _ _) hx
theorem sli_some {v : Vi} {d : Int} {s : Sl} : sliF v d s = if (sliR v d s).2 = true then some (sliR v d s).1 else none := by
  unfold sliF sliR
  by_cases h : viewOK v = true ∧ inR d 0 (v.sh.length - 1) = true ∧ slOK s = true
  · rw [if_pos h, if_pos h, if_pos rfl]
    obtain ⟨m, rfl, hm⟩ := dim_nat h.2.1
    rw [Int.toNat_natCast]
    exact cut_made h.1 hm h.2.2
  · rw [if_neg h, if_neg h]
    rfl
def DrDim (f : FuncId) : Prop := ∀ (bs : List UInt8), bs.length ≤ 1048576 → ∀ L : List Blk, ISpec Try.prog f [bytesA 0 bs] L fun r L' => ∃ (v : Vi) (d : Int), viOK v ∧ r = .tup [viD v, i64 d] ∧ L' = L
theorem ok_viB {v : Vi} (h : viewOK v = true) : viB v := ⟨by have := (shape_facts (vOK h).1).1; omega, by have := (shape_facts (vOK h).1).1; have := (vOK h).2; omega⟩
theorem zero_viB : viB ⟨0, [], []⟩ := by decide
end Go.Proofs.Ytjmkdnnfhphckaa
namespace Go.Proofs.Ytjmkdnnfhphckaa
open Go Go.Ev Go.RowKit Go.Ev.Enc Go.Pl

theorem gcV_tup (n : Nat) (L : List Blk) (l : List AV) : gcV n L (.tup l) = .tup (l.map (expE (gcC n L))) := rfl
theorem xE_int (n : Nat) (L : List Blk) (k : IntKind) (m : Int) : expE (gcC n L) (.int k m) = .int k m := rfl
theorem xE_bool (n : Nat) (L : List Blk) (b : Bool) : expE (gcC n L) (.bool b) = .bool b := rfl
theorem xE_agg (n : Nat) (L : List Blk) (l : List AV) : expE (gcC n L) (.agg l) = .agg (l.map (gcC n L)) := rfl
theorem gcC_ints' (n : Nat) (L : List Blk) (t : Nat) (l : List Int) : gcC n L (ints t l) = ints t l := by
  simp [gcC, gcStep, expE, ints, Function.comp_def]
attribute [go_sem] gcV_tup xE_int xE_bool xE_agg gcC_ints'
set_option maxHeartbeats 4000000 in
set_option maxRecDepth 100000 in
theorem o_ixAt {Sg : FuncId → Option (List AV → Option AV)} (hS : Sound Try.prog Sg) (s : List Int) (k : Int) (h1 : s.length < 4294967296) (h2 : 0 ≤ k ∧ k ≤ 9223372036854775807) (h3 : ∀ i, i < s.length → 1 ≤ s.getD i 0) : OSpec Try.prog 28 [ints 0 s, i64 k] (fun n => .sl n s.length 0 s.length s.length) (fun _ => [⟨1, (unrF s k).map fun n => .int .i64 n⟩]) := by
  refine OSpec.intro Try.func28 rfl (vc3_sound Try.pf hS hS _ _ _ ?_)
  obtain ⟨h2, h2'⟩ := h2
  have hall : ∀ m, ∀ d ∈ s.reverse.take m, 1 ≤ d := fun m d hd => by
    have := List.mem_of_mem_take hd
    rw [List.mem_reverse] at this
    obtain ⟨i, hi, rfl⟩ := List.mem_iff_getElem.1 this
    have := h3 i hi
    simpa [hi] using this
  have hul := unrF_len s k
  repeat' (first | with_reducible first | refine kI (by kernel_rfl) ?_ | refine kN (by kernel_rfl) ?_ | (first | refine kB1 ?_ ?_ | refine kB2 ?_ ?_) <;> intro hp | (first | refine kD1 ?_ ?_ | refine kD2 ?_ ?_ | refine kS1 ?_ ?_ | refine kS2 ?_ ?_) <;> intro hp <;> try simp only [hp] | simp -implicitDefEqProofs (disch := omega) only [go_sem, Nat.reduceAdd, Nat.reduceSub, reduceCtorEq, Nat.reduceLT, Nat.reduceLeDiff, Nat.reduceEqDiff, Nat.reduceMul, Int.reduceToNat, ↓reduceIte, List.take_of_length_le, if_pos, if_neg, List.getElem?_set_self, List.set_set, cnE, cnV, Try.ntmps28, Try.results28])
  refine LoopQ.mix (fun t0 L0 nn ss => ∃ (m : Nat) (c : Int) (_ : Unit), (∃ x : Nat → AV, ss = ⟨mixL 0 (.k :: .v (i64 c) :: .k :: .k :: .k :: .k :: .v (i64 ((m : Nat) - 1)) :: .k :: .k :: .k :: .k :: .k :: .k :: .s :: .s :: .s :: .s :: .s :: .s :: .s :: .s :: .s :: .s :: .s :: .s :: .s :: .s :: .s :: .s :: .s :: .s :: .s :: .k :: []) t0 x, [⟨1, (fromEnd (unrF s k) m).map fun n => .int .i64 n⟩]⟩) ∧ (m ≤ s.length) ∧ (c = divR (s.reverse.take (s.length - m)) k) ∧ nn = m + 1) ?_ ?_
  · exact ⟨_, ⟨s.length, k, (), mixJ rfl (by rw [fromEnd, List.drop_of_length_le (by omega), List.append_nil]), Nat.le_refl _, by rw [Nat.sub_self]; rfl, rfl⟩⟩
  · rintro I0 hI0 n ss ⟨m, c, _, ⟨x, rfl⟩, g1, g2, rfl⟩
    have hc := divR_nn (s.reverse.take (s.length - m)) k (hall _) h2
    rw [← g2] at hc
    match m, g1 with
    | 0, _ =>
      have h0 : fromEnd (unrF s k) 0 = unrF s k := by simp [fromEnd]
      rw [h0]
      repeat' (first | with_reducible first | refine kI (by kernel_rfl) ?_ | refine kN (by kernel_rfl) ?_ | (first | refine kB1 ?_ ?_ | refine kB2 ?_ ?_) <;> intro hp | (first | refine kD1 ?_ ?_ | refine kD2 ?_ ?_ | refine kS1 ?_ ?_ | refine kS2 ?_ ?_) <;> intro hp <;> try simp only [hp] | simp -implicitDefEqProofs (disch := omega) only [go_sem, Nat.reduceAdd, Nat.reduceSub, reduceCtorEq, Nat.reduceLT, Nat.reduceLeDiff, Nat.reduceEqDiff, Nat.reduceMul, Int.reduceToNat, ↓reduceIte, List.take_of_length_le, if_pos, if_neg, List.getElem?_set_self, List.set_set, cnE, cnV, Try.ntmps28, Try.results28])
      exact ⟨[0], by simp, by simp, fun _ => rfl, fun _ => by simp only [List.map, List.getD_cons_zero, renB_ints]⟩
    | m + 1, hm =>
      have h4 := h3 m hm
      have ht := fromEnd_len (l := unrF s k) (m := m + 1) (by omega)
      have hs := fromEnd_set (l := unrF s k) (m := m) (by omega)
      have hv := unrF_at (k := k) hm
      rw [← g2] at hv
      rw [hv] at hs
      have hd : divR (s.reverse.take (s.length - m)) k = c.tdiv (s.getD m 0) := by rw [rev_drop hm, divR_app, ← g2]; rfl
      have h5 : 0 ≤ c.tdiv (s.getD m 0) := Int.tdiv_nonneg hc.1 (by omega)
      have h6 : c.tdiv (s.getD m 0) ≤ c := by rw [Int.tdiv_eq_ediv_of_nonneg hc.1]; exact Int.ediv_le_self _ hc.1
      have e1 : (((m + 1 : Nat) : Int) - 1) = (m : Int) := by omega
      rw [e1]
      have h7 : ¬ s.getD m 0 = 0 := by omega
      repeat' (first | with_reducible first | refine kI (by kernel_rfl) ?_ | refine kN (by kernel_rfl) ?_ | (first | refine kB1 ?_ ?_ | refine kB2 ?_ ?_) <;> intro hp | (first | refine kD1 ?_ ?_ | refine kD2 ?_ ?_ | refine kS1 ?_ ?_ | refine kS2 ?_ ?_) <;> intro hp <;> try simp only [hp] | simp -implicitDefEqProofs (disch := omega) only [go_sem, Nat.reduceAdd, Nat.reduceSub, reduceCtorEq, Nat.reduceLT, Nat.reduceLeDiff, Nat.reduceEqDiff, Nat.reduceMul, Int.reduceToNat, ↓reduceIte, List.take_of_length_le, if_pos, if_neg, List.getElem?_set_self, List.set_set, cnE, cnV, Try.ntmps28, Try.results28,  hs, ht, set_ints])
      exact ⟨m + 1, by omega, hI0 _ _ ⟨m, _, (), mixI rfl, by omega, hd.symm, rfl⟩⟩
theorem can_ixAt : CanCall Try.prog 28 := ⟨_, Try.func28, rfl, rfl⟩
theorem can_IndexAt : CanCall Try.prog 9 := ⟨_, Try.func9, rfl, rfl⟩
def IxAt : Prop := ∀ (s : List Int) (k : Nat), shapeOK s = true → k < (prodW s).toNat → OSpec Try.prog 9 [ints 0 s, i64 (k : Nat)] (fun n => .sl n s.length 0 s.length s.length) (fun _ => [⟨1, (unrF s (k : Int)).map fun n => .int .i64 n⟩])
set_option maxHeartbeats 4000000 in
set_option maxRecDepth 100000 in
theorem o_IndexAt {Sg : FuncId → Option (List AV → Option AV)} (hS : Sound Try.prog Sg) (hs : Sg 21 = some (F1 gIsShape)) (hc : Sg 27 = some (F1 gCountOf)) (n1 : Sg 28 = none) (s : List Int) (k : Nat) (h1 : shapeOK s = true) (h2 : k < (prodW s).toNat) : OSpec Try.prog 9 [ints 0 s, i64 (k : Nat)] (fun n => .sl n s.length 0 s.length s.length) (fun _ => [⟨1, (unrF s (k : Int)).map fun n => .int .i64 n⟩]) := by
  refine OSpec.intro Try.func9 rfl (vc3_sound Try.pf hS hS _ _ _ ?_)
  obtain ⟨s1, s2, s3, s4, s5⟩ := shape_facts h1
  have q1 := gIsShape_eq (l := s) (by omega)
  rw [h1] at q1
  have q2 := gCountOf_eq (l := s) (by omega)
  have hk0 : ¬ (k : Int) < 0 := by omega
  have hk1 : ¬ prodW s ≤ (k : Int) := by omega
  repeat' (first | with_reducible first | refine kI (by kernel_rfl) ?_ | refine kN (by kernel_rfl) ?_ | (first | refine kB1 ?_ ?_ | refine kB2 ?_ ?_) <;> intro hp | (first | refine kD1 ?_ ?_ | refine kD2 ?_ ?_ | refine kS1 ?_ ?_ | refine kS2 ?_ ?_) <;> intro hp <;> try simp only [hp] | simp -implicitDefEqProofs (disch := omega) only [go_sem, Nat.reduceAdd, Nat.reduceSub, reduceCtorEq, Nat.reduceLT, Nat.reduceLeDiff, Nat.reduceEqDiff, Nat.reduceMul, Int.reduceToNat, ↓reduceIte, List.take_of_length_le, if_pos, if_neg, List.getElem?_set_self, List.set_set, cnE, cnV, Try.ntmps9, Try.results9,  hs, q1, hc, q2, hk0, hk1, n1, opQ_none])
  refine InlK_intro rfl rfl can_ixAt ((o_ixAt hS s (k : Int) (by omega) ⟨by omega, by omega⟩ (shape_pos h1 h2)).call (by simp only [go_sem, ints]) ?_)
  repeat' (first | with_reducible first | refine kI (by kernel_rfl) ?_ | refine kN (by kernel_rfl) ?_ | (first | refine kB1 ?_ ?_ | refine kB2 ?_ ?_) <;> intro hp | (first | refine kD1 ?_ ?_ | refine kD2 ?_ ?_ | refine kS1 ?_ ?_ | refine kS2 ?_ ?_) <;> intro hp <;> try simp only [hp] | simp -implicitDefEqProofs (disch := omega) only [go_sem, Nat.reduceAdd, Nat.reduceSub, reduceCtorEq, Nat.reduceLT, Nat.reduceLeDiff, Nat.reduceEqDiff, Nat.reduceMul, Int.reduceToNat, ↓reduceIte, List.take_of_length_le, if_pos, if_neg, List.getElem?_set_self, List.set_set, cnE, cnV, Try.ntmps9, Try.results9])
  exact ⟨[0], by simp, by simp, fun _ => rfl, fun _ => by simp only [List.map, List.getD_cons_zero, renB_ints]⟩
def offR (v : Vi) (x : List Int) : Int × Bool := if viewOK v = true ∧ idxOK v.sh x = true then (offW v x x.length, true) else (0, false)
def gOffAt (v : Vi) (x : List Int) : Option (Int × Bool) := gd (viB v ∧ x.length < 4294967296) (offR v x)
theorem gOffAt_eq {v : Vi} {x : List Int} (h : viB v ∧ x.length < 4294967296) : gOffAt v x = some (offR v x) := gd_eq h
set_option maxHeartbeats 4000000 in
set_option maxRecDepth 100000 in
theorem spec_OffsetAt {Sg : FuncId → Option (List AV → Option AV)} (hS : Sound Try.prog Sg) (hv : Sg 20 = some (F1 gValidV)) (hi : Sg 29 = some (F2 gIsIndex)) (ho : Sg 30 = some (F2 gOffset)) : ∀ a r, F2 gOffAt a = some r → CSpec Try.prog 10 a r := by
  refine F2_spec ?_
  intro v x r hr0
  obtain ⟨⟨h1, h2⟩, rfl⟩ := gd_some hr0
  refine CSpec.intro Try.func10 rfl (own _) (vc3_sound Try.pf hS hS _ _ _ ?_)
  have q1 := gValidV_eq h1
  have q2 := gIsIndex_eq (s := v.sh) (i := x) h1.1 h2
  unfold offR
  cases e1 : viewOK v with
  | false =>
    rw [e1] at q1
    rw [if_neg (by simp)]
    repeat' (first | with_reducible first | refine kI (by kernel_rfl) ?_ | refine kN (by kernel_rfl) ?_ | (first | refine kB1 ?_ ?_ | refine kB2 ?_ ?_) <;> intro hp | (first | refine kD1 ?_ ?_ | refine kD2 ?_ ?_ | refine kS1 ?_ ?_ | refine kS2 ?_ ?_) <;> intro hp <;> try simp only [hp] | simp -implicitDefEqProofs (disch := omega) only [go_sem, Nat.reduceAdd, Nat.reduceSub, reduceCtorEq, Nat.reduceLT, Nat.reduceLeDiff, Nat.reduceEqDiff, Nat.reduceMul, Int.reduceToNat, ↓reduceIte, List.take_of_length_le, if_pos, if_neg, List.getElem?_set_self, List.set_set, cnE, cnV, Try.ntmps10, Try.results10,  hv, q1])
    try rfl
  | true =>
    rw [e1] at q1
    cases e2 : idxOK v.sh x with
    | false =>
      rw [e2] at q2
      rw [if_neg (by simp)]
      repeat' (first | with_reducible first | refine kI (by kernel_rfl) ?_ | refine kN (by kernel_rfl) ?_ | (first | refine kB1 ?_ ?_ | refine kB2 ?_ ?_) <;> intro hp | (first | refine kD1 ?_ ?_ | refine kD2 ?_ ?_ | refine kS1 ?_ ?_ | refine kS2 ?_ ?_) <;> intro hp <;> try simp only [hp] | simp -implicitDefEqProofs (disch := omega) only [go_sem, Nat.reduceAdd, Nat.reduceSub, reduceCtorEq, Nat.reduceLT, Nat.reduceLeDiff, Nat.reduceEqDiff, Nat.reduceMul, Int.reduceToNat, ↓reduceIte, List.take_of_length_le, if_pos, if_neg, List.getElem?_set_self, List.set_set, cnE, cnV, Try.ntmps10, Try.results10,  hv, q1, hi, q2])
      try rfl
    | true =>
      rw [e2] at q2
      rw [if_pos ⟨rfl, rfl⟩]
      have hx : x.length = v.sh.length := by
        unfold idxOK at e2
        simp only [Bool.and_eq_true, decide_eq_true_eq] at e2
        exact e2.1
      have q3 := gOffset_eq (v := v) (x := x) ⟨by rw [(vOK e1).2]; omega, h1.2⟩
      repeat' (first | with_reducible first | refine kI (by kernel_rfl) ?_ | refine kN (by kernel_rfl) ?_ | (first | refine kB1 ?_ ?_ | refine kB2 ?_ ?_) <;> intro hp | (first | refine kD1 ?_ ?_ | refine kD2 ?_ ?_ | refine kS1 ?_ ?_ | refine kS2 ?_ ?_) <;> intro hp <;> try simp only [hp] | simp -implicitDefEqProofs (disch := omega) only [go_sem, Nat.reduceAdd, Nat.reduceSub, reduceCtorEq, Nat.reduceLT, Nat.reduceLeDiff, Nat.reduceEqDiff, Nat.reduceMul, Int.reduceToNat, ↓reduceIte, List.take_of_length_le, if_pos, if_neg, List.getElem?_set_self, List.set_set, cnE, cnV, Try.ntmps10, Try.results10,  hv, q1, hi, q2, ho, q3])
      try rfl
theorem off_ix {v : Vi} {x : List Int} (h : viewOK v = true) (hx : vIx v.sh x) : gOffAt v x = some (offP v x v.sh.length, true) := by
  have hl := (shape_facts (vOK h).1).1
  have hi : idxOK v.sh x = true := idxOK_true hx.1 fun i hi => hx.2 i (by rw [← hx.1]; exact hi)
  rw [gOffAt_eq ⟨ok_viB h, by rw [hx.1]; omega⟩]
  unfold offR
  rw [if_pos ⟨h, hi⟩, hx.1, offW_ix h hx]
def DrSli (f : FuncId) : Prop := ∀ (bs : List UInt8), bs.length ≤ 1048576 → ∀ L : List Blk, ISpec Try.prog f [bytesA 0 bs] L fun r L' => ∃ (v : Vi) (d : Int) (s : Sl), viOK v ∧ r = .tup [viD v, i64 d, slA s] ∧ L' = L
end Go.Proofs.Ytjmkdnnfhphckaa
namespace Go.Proofs.Ytjmkdnnfhphckaa
open Go Go.Ev Go.RowKit Go.Ev.Enc Go.Pl

/-! ### values stored in a view -/
def stoV (m : List Int) (v : Vi) (V : List Int) : List Int := stoT m (offF v) V (offF v).length
def gStoI (m : List Int) (v : Vi) (V : List Int) : Option (List Int) := gd (holdB m v = true ∧ V.length = (offF v).length) (stoV m v V)
theorem gStoI_eq {m : List Int} {v : Vi} {V : List Int} (h : holdB m v = true ∧ V.length = (offF v).length) : gStoI m v V = some (stoV m v V) := gd_eq h
/-! ### may values be stored, may a view be copied? -/
def stoB (m : List Int) (v : Vi) (V : List Int) : Bool := holdB m v && (decide (V.length = (offF v).length) && V.all fun x => inR x 0 255)
theorem stoB_iff {m : List Int} {v : Vi} {V : List Int} : stoB m v V = true ↔ holdB m v = true ∧ V.length = (offF v).length ∧ ∀ x ∈ V, 0 ≤ x ∧ x ≤ 255 := by
  unfold stoB inR
  simp only [Bool.and_eq_true, decide_eq_true_eq, List.all_eq_true]
def stB3 (m : List Int) (v : Vi) (V : List Int) : Prop := memB m v ∧ V.length < 4294967296
instance (m : List Int) (v : Vi) (V : List Int) : Decidable (stB3 m v V) := by unfold stB3; infer_instance
def gCanS (m : List Int) (v : Vi) (V : List Int) : Option Bool := gd (stB3 m v V) (stoB m v V)
theorem gCanS_eq {m : List Int} {v : Vi} {V : List Int} (h : stB3 m v V) : gCanS m v V = some (stoB m v V) := gd_eq h
theorem len_beq {V : List Int} {v : Vi} (h : shapeOK v.sh = true) : ((V.length : Int) == prodW v.sh) = decide (V.length = (offF v).length) := by
  have := shape_facts h
  rw [Bool.eq_iff_iff, beq_iff_eq, decide_eq_true_eq, offF_len]
  omega
def storR (m : List Int) (v : Vi) (V : List Int) : List Int × Bool := if stoB m v V = true then (stoV m v V, true) else ([], false)
def gStore (m : List Int) (v : Vi) (V : List Int) : Option (List Int × Bool) := gd (stB3 m v V) (storR m v V)
theorem gStore_eq {m : List Int} {v : Vi} {V : List Int} (h : stB3 m v V) : gStore m v V = some (storR m v V) := gd_eq h
end Go.Proofs.Ytjmkdnnfhphckaa
namespace Go.Proofs.Ytjmkdnnfhphckaa
open Go Go.Ev Go.RowKit Go.Ev.Enc Go.Pl

/-! ### copies -/
def cpyB (m : List Int) (a b : Vi) : Bool := holdB m a && (holdB m b && decide (a.sh = b.sh))
theorem cpyB_iff {m : List Int} {a b : Vi} : cpyB m a b = true ↔ holdB m a = true ∧ holdB m b = true ∧ a.sh = b.sh := by
  unfold cpyB
  rw [Bool.and_eq_true, Bool.and_eq_true, decide_eq_true_eq]
def mB2 (m : List Int) (a b : Vi) : Prop := m.length < 4294967296 ∧ viB2 a b
instance (m : List Int) (a b : Vi) : Decidable (mB2 m a b) := by unfold mB2; infer_instance
def gCanC (m : List Int) (a b : Vi) : Option Bool := gd (mB2 m a b) (cpyB m a b)
theorem gCanC_eq {m : List Int} {a b : Vi} (h : mB2 m a b) : gCanC m a b = some (cpyB m a b) := gd_eq h
theorem len_off {a b : Vi} (h : a.sh = b.sh) : (offF b).length = (offF a).length := by rw [offF_len, offF_len, h]
def cpyR (m : List Int) (a b : Vi) : List Int × Bool := if cpyB m a b = true then (stoV m a (tkn m (offF b)), true) else ([], false)
def gCopy (m : List Int) (a b : Vi) : Option (List Int × Bool) := gd (mB2 m a b) (cpyR m a b)
theorem gCopy_eq {m : List Int} {a b : Vi} (h : mB2 m a b) : gCopy m a b = some (cpyR m a b) := gd_eq h
/-- cells copied one by one in an order -/
def cpT (m A B O : List Int) : Nat → List Int
  | 0 => m
  | k + 1 => (cpT m A B O k).set (A.getD (O.getD k 0).toNat 0).toNat ((cpT m A B O k).getD (B.getD (O.getD k 0).toNat 0).toNat 0)
theorem cpT_len (m A B O : List Int) : ∀ k, (cpT m A B O k).length = m.length
  | 0 => rfl
  | k + 1 => by rw [cpT, List.length_set, cpT_len m A B O k]
instance (A : List Int) (n : Nat) : Decidable (inM A n) := by unfold inM; infer_instance
def stB4 (m A B O : List Int) : Prop := (m.length ≤ 1000 ∧ A.length < 4294967296 ∧ B.length < 4294967296 ∧ O.length < 4294967296) ∧ inM A m.length ∧ inM B m.length ∧ inM O A.length ∧ inM O B.length
instance (m A B O : List Int) : Decidable (stB4 m A B O) := by unfold stB4; infer_instance
def gStep (m A B O : List Int) : Option (List Int) := gd (stB4 m A B O) (cpT m A B O O.length)
theorem gStep_eq {m A B O : List Int} (h : stB4 m A B O) : gStep m A B O = some (cpT m A B O O.length) := gd_eq h
def fwdR (m : List Int) (a b : Vi) : List Int × Bool := if cpyB m a b = true then (cpT m (offF a) (offF b) (upV (offF a).length) (offF a).length, true) else ([], false)
def bwdR (m : List Int) (a b : Vi) : List Int × Bool := if cpyB m a b = true then (cpT m (offF a) (offF b) (upV (offF a).length).reverse (offF a).length, true) else ([], false)
def gFwd (m : List Int) (a b : Vi) : Option (List Int × Bool) := gd (mB2 m a b) (fwdR m a b)
theorem gFwd_eq {m : List Int} {a b : Vi} (h : mB2 m a b) : gFwd m a b = some (fwdR m a b) := gd_eq h
def gBwd (m : List Int) (a b : Vi) : Option (List Int × Bool) := gd (mB2 m a b) (bwdR m a b)
theorem gBwd_eq {m : List Int} {a b : Vi} (h : mB2 m a b) : gBwd m a b = some (bwdR m a b) := gd_eq h
theorem upV_in (n : Nat) : inM (upV n) n := fun x hx => upV_mem.1 hx
theorem upR_in (n : Nat) : inM (upV n).reverse n := fun x hx => upV_mem.1 (List.mem_reverse.1 hx)
theorem upR_at {n k : Nat} (h : k < n) : (upV n).reverse.getD k 0 = ((n - 1 - k : Nat) : Int) := by
  rw [List.getD_eq_getElem?_getD, List.getElem?_reverse (by rw [upV_len]; exact h), upV_len, ← List.getD_eq_getElem?_getD, upV_at (by omega)]
theorem off_cnt {a : Vi} (h : shapeOK a.sh = true) : prodW a.sh = ((offF a).length : Int) := by
  have := shape_facts h
  rw [offF_len]; omega
/-! ### exchanged -/
def swpB (m : List Int) (a b : Vi) : Bool := cpyB m a b && (!decide (0 < (bothF (offF a) (offF b)).length) && (diffF (offF a) && diffF (offF b)))
def swpL (m : List Int) (a b : Vi) : List Int := stoV (stoV m a (tkn m (offF b))) b (tkn m (offF a))
def swpR (m : List Int) (a b : Vi) : List Int × Bool := if swpB m a b = true then (swpL m a b, true) else ([], false)
def gSwap (m : List Int) (a b : Vi) : Option (List Int × Bool) := gd (mB2 m a b) (swpR m a b)
theorem gSwap_eq {m : List Int} {a b : Vi} (h : mB2 m a b) : gSwap m a b = some (swpR m a b) := gd_eq h
theorem tkn_val {m A : List Int} (hm : memOK m = true) (hA : inM A m.length) : ∀ x ∈ tkn m A, 0 ≤ x ∧ x ≤ 255 := fun x hx => by
  obtain ⟨y, hy, rfl⟩ := List.mem_map.1 hx
  have := hA y hy
  exact (memOK_iff.1 hm).2 _ (gmem (by omega))
theorem sto_hold {m : List Int} {v w : Vi} {V : List Int} (hw : holdB m w = true) (hl : V.length = (offF v).length) (hV : ∀ x ∈ V, 0 ≤ x ∧ x ≤ 255) : holdB (stoV m v V) w = true :=
  hold_of hw (sto_mem (fit_in hw).1 hV (by omega)) (stoT_len _ _ _ _)
end Go.Proofs.Ytjmkdnnfhphckaa
