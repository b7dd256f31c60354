/- Contracts of functions on views and memories that the laws of this seat call. -/
import Derived.Test.YtkmnepmnjpdpkaaGreatDoorWA
set_option linter.all false
namespace Go.Proofs.YtkmnepmnjpdpkaaGreatDoor
open Go Go.Ev Go.RowKit Go.Ev.Enc Go.Pl

end Go.Proofs.YtkmnepmnjpdpkaaGreatDoor
namespace Go.Proofs.YtkmnepmnjpdpkaaGreatDoor
open Go Go.Ev Go.RowKit Go.Ev.Enc Go.Pl

end Go.Proofs.YtkmnepmnjpdpkaaGreatDoor
namespace Go.Proofs.YtkmnepmnjpdpkaaGreatDoor
open Go Go.Ev Go.RowKit Go.Ev.Enc Go.Pl

end Go.Proofs.YtkmnepmnjpdpkaaGreatDoor
namespace Go.Proofs.YtkmnepmnjpdpkaaGreatDoor
open Go Go.Ev Go.RowKit Go.Ev.Enc Go.Pl

def sliR (v : Vi) (d : Int) (s : Sl) : Vi × Bool := if viewOK v = true ∧ inR d 0 (v.sh.length - 1) = true ∧ slOK s = true then (slcF v d.toNat (indF (v.sh.getD d.toNat 0) s), true) else (⟨0, [], []⟩, false)
theorem dim_nat {v : Vi} {d : Int} (h : inR d 0 (v.sh.length - 1) = true) : ∃ m : Nat, d = m ∧ m < v.sh.length := by
  unfold inR at h
  simp only [Bool.and_eq_true, decide_eq_true_eq] at h
  exact ⟨d.toNat, by omega, by omega⟩
end Go.Proofs.YtkmnepmnjpdpkaaGreatDoor
namespace Go.Proofs.YtkmnepmnjpdpkaaGreatDoor
open Go Go.Ev Go.RowKit Go.Ev.Enc Go.Pl

theorem sli_some {v : Vi} {d : Int} {s : Sl} : sliF v d s = if (sliR v d s).2 = true then some (sliR v d s).1 else none := by
  unfold sliF sliR
  by_cases h : viewOK v = true ∧ inR d 0 (v.sh.length - 1) = true ∧ slOK s = true
  · rw [if_pos h, if_pos h, if_pos rfl]
    obtain ⟨m, rfl, hm⟩ := dim_nat h.2.1
    rw [Int.toNat_natCast]
    exact cut_made h.1 hm h.2.2
  · rw [if_neg h, if_neg h]
    rfl
theorem ok_viB {v : Vi} (h : viewOK v = true) : viB v := ⟨by have := (shape_facts (vOK h).1).1; omega, by have := (shape_facts (vOK h).1).1; have := (vOK h).2; omega⟩
end Go.Proofs.YtkmnepmnjpdpkaaGreatDoor
namespace Go.Proofs.YtkmnepmnjpdpkaaGreatDoor
open Go Go.Ev Go.RowKit Go.Ev.Enc Go.Pl

theorem gcV_tup (n : Nat) (L : List Blk) (l : List AV) : gcV n L (.tup l) = .tup (l.map (expE (gcC n L))) := rfl
theorem xE_int (n : Nat) (L : List Blk) (k : IntKind) (m : Int) : expE (gcC n L) (.int k m) = .int k m := rfl
theorem xE_bool (n : Nat) (L : List Blk) (b : Bool) : expE (gcC n L) (.bool b) = .bool b := rfl
theorem xE_agg (n : Nat) (L : List Blk) (l : List AV) : expE (gcC n L) (.agg l) = .agg (l.map (gcC n L)) := rfl
theorem gcC_ints' (n : Nat) (L : List Blk) (t : Nat) (l : List Int) : gcC n L (ints t l) = ints t l := by
  simp [gcC, gcStep, expE, ints, Function.comp_def]
attribute [go_sem] gcV_tup xE_int xE_bool xE_agg gcC_ints'
end Go.Proofs.YtkmnepmnjpdpkaaGreatDoor
namespace Go.Proofs.YtkmnepmnjpdpkaaGreatDoor
open Go Go.Ev Go.RowKit Go.Ev.Enc Go.Pl

def stoV (m : List Int) (v : Vi) (V : List Int) : List Int := stoT m (offF v) V (offF v).length
set_option maxHeartbeats 4000000 in
set_option maxRecDepth 100000 in
theorem spec_load {Sg : FuncId → Option (List AV → Option AV)} (hS : Sound Tryz.prog Sg) (ho : Sg 143 = some (F1 gOffsets)) : ∀ a r, F2 gLoadI a = some r → CSpec Tryz.prog 103 a r := by
  refine F2_spec ?_
  intro m v r hr
  obtain ⟨h, rfl⟩ := gd_some hr
  refine CSpec.intro Tryz.func103 rfl (own _) (vc3_sound Tryz.pf hS hS _ _ _ ?_)
  obtain ⟨h1, h2, h3⟩ := fit_in h
  have hm := (memOK_iff.1 h1).1
  have h6 := offF_60 (vOK h2).1
  have q1 := gOffsets_eq (vOK h2)
  have hv0 : viB0 v = viB0 v := rfl
  repeat' (first | with_reducible first | refine kI (by kernel_rfl) ?_ | refine kN (by kernel_rfl) ?_ | (first | refine kB1 ?_ ?_ | refine kB2 ?_ ?_) <;> intro hp | (first | refine kD1 ?_ ?_ | refine kD2 ?_ ?_ | refine kS1 ?_ ?_ | refine kS2 ?_ ?_) <;> intro hp <;> try simp only [hp] | simp -implicitDefEqProofs (disch := omega) only [go_sem, Nat.reduceAdd, Nat.reduceSub, reduceCtorEq, Nat.reduceLT, Nat.reduceLeDiff, Nat.reduceEqDiff, Nat.reduceMul, Int.reduceToNat, ↓reduceIte, List.take_of_length_le, if_pos, if_neg, List.getElem?_set_self, List.set_set, cnE, cnV, Tryz.ntmps103, Tryz.results103,  ho, q1])
  generalize offF v = A at *
  refine LoopQ.mix (fun t0 L0 nn ss => ∃ (k : Nat) (q : List Int) (_ : Unit), (∃ x : Nat → AV, ss = ⟨mixL 0 (.k :: .k :: .k :: .k :: .k :: .v (.sl 1 k 0 k k) :: .k :: .v (i64 (k : Nat)) :: .k :: .k :: .k :: .s :: .s :: .s :: .s :: .s :: .s :: .s :: .s :: .s :: .s :: .s :: .s :: .s :: .s :: .s :: .s :: .k :: []) t0 x, [viB0 v, ⟨1, q.map fun n => .int .i64 n⟩]⟩) ∧ (k ≤ A.length) ∧ (q.length = k) ∧ (q = tkn m (A.take k)) ∧ nn = A.length - k) ?_ ?_
  · exact ⟨_, ⟨0, [], (), mixI rfl, Nat.zero_le _, rfl, rfl, rfl⟩⟩
  · rintro I0 hI0 nn s ⟨k, q, _, ⟨x, rfl⟩, g1, g2, g3, rfl⟩
    by_cases hk : k < A.length
    · have hki : (k : Int) < (A.length : Int) := by omega
      obtain ⟨j, hj, hjm⟩ := in_at h3 hk
      have hs := tkn_take (e := m) (l := A) hk
      rw [hj, Int.toNat_natCast, ← g3] at hs
      repeat' (first | with_reducible first | refine kI (by kernel_rfl) ?_ | refine kN (by kernel_rfl) ?_ | (first | refine kB1 ?_ ?_ | refine kB2 ?_ ?_) <;> intro hp | (first | refine kD1 ?_ ?_ | refine kD2 ?_ ?_ | refine kS1 ?_ ?_ | refine kS2 ?_ ?_) <;> intro hp <;> try simp only [hp] | simp -implicitDefEqProofs (disch := omega) only [go_sem, Nat.reduceAdd, Nat.reduceSub, reduceCtorEq, Nat.reduceLT, Nat.reduceLeDiff, Nat.reduceEqDiff, Nat.reduceMul, Int.reduceToNat, ↓reduceIte, List.take_of_length_le, if_pos, if_neg, List.getElem?_set_self, List.set_set, cnE, cnV, Tryz.ntmps103, Tryz.results103,  hki, getD_ints hk, hj, getD_ints hjm])
      exact ⟨A.length - (k + 1), by omega, hI0 _ _ ⟨k + 1, q ++ [m.getD j 0], (), mixI rfl, hk, by simp [g2], hs, rfl⟩⟩
    · obtain rfl : k = A.length := by omega
      rw [List.take_length] at g3
      subst g3
      repeat' (first | with_reducible first | refine kI (by kernel_rfl) ?_ | refine kN (by kernel_rfl) ?_ | (first | refine kB1 ?_ ?_ | refine kB2 ?_ ?_) <;> intro hp | (first | refine kD1 ?_ ?_ | refine kD2 ?_ ?_ | refine kS1 ?_ ?_ | refine kS2 ?_ ?_) <;> intro hp <;> try simp only [hp] | simp -implicitDefEqProofs (disch := omega) only [go_sem, Nat.reduceAdd, Nat.reduceSub, reduceCtorEq, Nat.reduceLT, Nat.reduceLeDiff, Nat.reduceEqDiff, Nat.reduceMul, Int.reduceToNat, ↓reduceIte, List.take_of_length_le, if_pos, if_neg, List.getElem?_set_self, List.set_set, cnE, cnV, Tryz.ntmps103, Tryz.results103])
def stB3 (m : List Int) (v : Vi) (V : List Int) : Prop := memB m v ∧ V.length < 4294967296
instance (m : List Int) (v : Vi) (V : List Int) : Decidable (stB3 m v V) := by unfold stB3; infer_instance
end Go.Proofs.YtkmnepmnjpdpkaaGreatDoor
namespace Go.Proofs.YtkmnepmnjpdpkaaGreatDoor
open Go Go.Ev Go.RowKit Go.Ev.Enc Go.Pl

def cpyB (m : List Int) (a b : Vi) : Bool := holdB m a && (holdB m b && decide (a.sh = b.sh))
theorem cpyB_iff {m : List Int} {a b : Vi} : cpyB m a b = true ↔ holdB m a = true ∧ holdB m b = true ∧ a.sh = b.sh := by
  unfold cpyB
  rw [Bool.and_eq_true, Bool.and_eq_true, decide_eq_true_eq]
def mB2 (m : List Int) (a b : Vi) : Prop := m.length < 4294967296 ∧ viB2 a b
instance (m : List Int) (a b : Vi) : Decidable (mB2 m a b) := by unfold mB2; infer_instance
def gCanC (m : List Int) (a b : Vi) : Option Bool := gd (mB2 m a b) (cpyB m a b)
theorem gCanC_eq {m : List Int} {a b : Vi} (h : mB2 m a b) : gCanC m a b = some (cpyB m a b) := gd_eq h
set_option maxHeartbeats 4000000 in
set_option maxRecDepth 100000 in
theorem spec_pair {Sg : FuncId → Option (List AV → Option AV)} (hS : Sound Tryz.prog Sg) (hh : Sg 199 = some (F2 gHolds)) (he : Sg 221 = some (F2 gEqInts)) : ∀ a r, F3 gCanC a = some r → CSpec Tryz.prog 200 a r := by
  refine F3_spec ?_
  intro m a b r hr0
  obtain ⟨⟨h1, h2⟩, rfl⟩ := gd_some hr0
  refine CSpec.intro Tryz.func200 rfl (own _) (vc3_sound Tryz.pf hS hS _ _ _ ?_)
  have q1 := gHolds_eq (m := m) (v := a) ⟨h1, h2.1⟩
  have q2 := gHolds_eq (m := m) (v := b) ⟨h1, h2.2⟩
  have q3 := gEqInts_eq (a := a.sh) (b := b.sh) ⟨h2.1.1, h2.2.1⟩
  unfold cpyB
  cases e1 : holdB m a with
  | false =>
    rw [e1] at q1
    repeat' (first | with_reducible first | refine kI (by kernel_rfl) ?_ | refine kN (by kernel_rfl) ?_ | (first | refine kB1 ?_ ?_ | refine kB2 ?_ ?_) <;> intro hp | (first | refine kD1 ?_ ?_ | refine kD2 ?_ ?_ | refine kS1 ?_ ?_ | refine kS2 ?_ ?_) <;> intro hp <;> try simp only [hp] | simp -implicitDefEqProofs (disch := omega) only [go_sem, Nat.reduceAdd, Nat.reduceSub, reduceCtorEq, Nat.reduceLT, Nat.reduceLeDiff, Nat.reduceEqDiff, Nat.reduceMul, Int.reduceToNat, ↓reduceIte, List.take_of_length_le, if_pos, if_neg, List.getElem?_set_self, List.set_set, cnE, cnV, Tryz.ntmps200, Tryz.results200,  hh, q1])
    try rfl
  | true =>
    rw [e1] at q1
    cases e2 : holdB m b with
    | false =>
      rw [e2] at q2
      repeat' (first | with_reducible first | refine kI (by kernel_rfl) ?_ | refine kN (by kernel_rfl) ?_ | (first | refine kB1 ?_ ?_ | refine kB2 ?_ ?_) <;> intro hp | (first | refine kD1 ?_ ?_ | refine kD2 ?_ ?_ | refine kS1 ?_ ?_ | refine kS2 ?_ ?_) <;> intro hp <;> try simp only [hp] | simp -implicitDefEqProofs (disch := omega) only [go_sem, Nat.reduceAdd, Nat.reduceSub, reduceCtorEq, Nat.reduceLT, Nat.reduceLeDiff, Nat.reduceEqDiff, Nat.reduceMul, Int.reduceToNat, ↓reduceIte, List.take_of_length_le, if_pos, if_neg, List.getElem?_set_self, List.set_set, cnE, cnV, Tryz.ntmps200, Tryz.results200,  hh, q1, q2])
      try rfl
    | true =>
      rw [e2] at q2
      repeat' (first | with_reducible first | refine kI (by kernel_rfl) ?_ | refine kN (by kernel_rfl) ?_ | (first | refine kB1 ?_ ?_ | refine kB2 ?_ ?_) <;> intro hp | (first | refine kD1 ?_ ?_ | refine kD2 ?_ ?_ | refine kS1 ?_ ?_ | refine kS2 ?_ ?_) <;> intro hp <;> try simp only [hp] | simp -implicitDefEqProofs (disch := omega) only [go_sem, Nat.reduceAdd, Nat.reduceSub, reduceCtorEq, Nat.reduceLT, Nat.reduceLeDiff, Nat.reduceEqDiff, Nat.reduceMul, Int.reduceToNat, ↓reduceIte, List.take_of_length_le, if_pos, if_neg, List.getElem?_set_self, List.set_set, cnE, cnV, Tryz.ntmps200, Tryz.results200,  hh, q1, q2, he, q3])
      try rfl
theorem len_off {a b : Vi} (h : a.sh = b.sh) : (offF b).length = (offF a).length := by rw [offF_len, offF_len, h]
instance (A : List Int) (n : Nat) : Decidable (inM A n) := by unfold inM; infer_instance
def stB4 (m A B O : List Int) : Prop := (m.length ≤ 1000 ∧ A.length < 4294967296 ∧ B.length < 4294967296 ∧ O.length < 4294967296) ∧ inM A m.length ∧ inM B m.length ∧ inM O A.length ∧ inM O B.length
instance (m A B O : List Int) : Decidable (stB4 m A B O) := by unfold stB4; infer_instance
theorem tkn_val {m A : List Int} (hm : memOK m = true) (hA : inM A m.length) : ∀ x ∈ tkn m A, 0 ≤ x ∧ x ≤ 255 := fun x hx => by
  obtain ⟨y, hy, rfl⟩ := List.mem_map.1 hx
  have := hA y hy
  exact (memOK_iff.1 hm).2 _ (gmem (by omega))
end Go.Proofs.YtkmnepmnjpdpkaaGreatDoor
