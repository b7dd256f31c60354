/- Contracts of functions on lists, shapes and numbers that the laws of this seat call. -/
import Derived.Test.YtkmnepmnjpdpkaaDoorFA
import Derived.Test.YtkmnepmnjpdpkaaDoorEvC
set_option linter.all false
namespace Go.Proofs.YtkmnepmnjpdpkaaDoor
open Go Go.Ev Go.RowKit Go.Ev.Enc Go.Pl

end Go.Proofs.YtkmnepmnjpdpkaaDoor
namespace Go.Proofs.YtkmnepmnjpdpkaaDoor
open Go Go.Ev Go.RowKit Go.Ev.Enc Go.Pl

end Go.Proofs.YtkmnepmnjpdpkaaDoor
namespace Go.Proofs.YtkmnepmnjpdpkaaDoor
open Go Go.Ev Go.RowKit Go.Ev.Enc Go.Pl

def diffF (l : List Int) : Bool := decide (∀ k, k < l.length → ¬ l.getD k 0 ∈ l.take k)
def goodF (out e : List Int) : Bool := labOK out && diffF out && (tkn e out).all (fun n => inR n 0 60) && shapeOK (tkn e out)
end Go.Proofs.YtkmnepmnjpdpkaaDoor
namespace Go.Proofs.YtkmnepmnjpdpkaaDoor
open Go Go.Ev Go.RowKit Go.Ev.Enc Go.Pl

structure ExtOK (l : List Tsr) (b : List (List Int)) (e : List Int) : Prop where
  len : e.length = 5
  bl : b.length = l.length
  l1 : 1 ≤ l.length
  l3 : l.length ≤ 3
  lab : labsIn b
  row : ∀ k, k < b.length → (b.getD k []).length = (l.getD k ⟨[], []⟩).sh.length
  tsr : ∀ k, k < l.length → tsrOK (l.getD k ⟨[], []⟩) = true
  ext : ∀ k, k < b.length → ∀ d, d < (b.getD k []).length → e.getD ((b.getD k []).getD d 0).toNat 0 = (l.getD k ⟨[], []⟩).sh.getD d 0
  ub : ∀ k, e.getD k 0 ≤ 60
end Go.Proofs.YtkmnepmnjpdpkaaDoor
namespace Go.Proofs.YtkmnepmnjpdpkaaDoor
open Go Go.Ev Go.RowKit Go.Ev.Enc Go.Pl

structure SumCtx (l : List Tsr) (b : List (List Int)) (out e used : List Int) : Prop where
  ext : ExtOK l b e
  sz : szOK l b
  ol : out.length < 4294967296
  good : goodF out e = true
  ul : ∀ u ∈ used, 0 ≤ u ∧ u < 5
  ue : ∀ u ∈ used, 0 ≤ e.getD u.toNat 0
  ud : used.Pairwise (· < ·)
  un : used.length ≤ 5
end Go.Proofs.YtkmnepmnjpdpkaaDoor
namespace Go.Proofs.YtkmnepmnjpdpkaaDoor
open Go Go.Ev Go.RowKit Go.Ev.Enc Go.Pl

end Go.Proofs.YtkmnepmnjpdpkaaDoor
namespace Go.Proofs.YtkmnepmnjpdpkaaDoor
open Go Go.Ev Go.RowKit Go.Ev.Enc Go.Pl

theorem evApp_i6 {B0 B1 B2 B3 B4 B5 : Blk} {L : List Blk} {n by' : Nat} {q : List Int} {x : Int} (hn : q.length = n) (h1 : (n + 1) * by' ≤ 140737488355328) (h2 : n + 1 ≤ 9223372036854775807) :
    evApp (B0 :: B1 :: B2 :: B3 :: B4 :: B5 :: ⟨1, q.map fun n => .int .i64 n⟩ :: L) (.sl 6 n 0 n n) [.int .i64 x] 1 by' = some (.sl 6 (n + 1) 0 (n + 1) (n + 1), B0 :: B1 :: B2 :: B3 :: B4 :: B5 :: ⟨1, (q ++ [x]).map fun n => .int .i64 n⟩ :: L) := evApp_int (L := B0 :: B1 :: B2 :: B3 :: B4 :: B5 :: ⟨1, q.map fun n => .int .i64 n⟩ :: L) (b := 6) rfl hn h1 h2
end Go.Proofs.YtkmnepmnjpdpkaaDoor
namespace Go.Proofs.YtkmnepmnjpdpkaaDoor
open Go Go.Ev Go.RowKit Go.Ev.Enc Go.Pl

end Go.Proofs.YtkmnepmnjpdpkaaDoor
namespace Go.Proofs.YtkmnepmnjpdpkaaDoor
open Go Go.Ev Go.RowKit Go.Ev.Enc Go.Pl

end Go.Proofs.YtkmnepmnjpdpkaaDoor
namespace Go.Proofs.YtkmnepmnjpdpkaaDoor
open Go Go.Ev Go.RowKit Go.Ev.Enc Go.Pl

def mks (k : Int) (n : Nat) : List Int := (List.range n).map fun i : Nat => k + (i : Int)
theorem mks_len (k : Int) (n : Nat) : (mks k n).length = n := by simp [mks]
theorem mks_at {k : Int} {n i : Nat} (h : i < n) : (mks k n).getD i 0 = k + (i : Int) := by simp [mks, h]
def part (k : Int) (i : Nat) (l : List Int) : List Int := mks k i ++ l.drop i
theorem part_len {k : Int} {i : Nat} {l : List Int} (h : i ≤ l.length) : (part k i l).length = l.length := by simp [part, mks]; omega
theorem part_zero (k : Int) (l : List Int) : part k 0 l = l := rfl
theorem part_full (k : Int) (l : List Int) : part k l.length l = mks k l.length := by simp [part]
theorem part_set {k : Int} {i : Nat} {l : List Int} (h : i < l.length) : (part k i l).set i (k + (i : Int)) = part k (i + 1) l := by
  unfold part
  rw [List.set_append_right _ _ (by rw [mks_len]; exact Nat.le_refl _), mks_len, Nat.sub_self, List.drop_eq_getElem_cons h, List.set_cons_zero]
  unfold mks
  rw [List.range_succ, List.map_append, List.append_assoc]
  rfl
theorem wrap_mk {k : Int} {i : Nat} (hk : -1000000000000 ≤ k ∧ k ≤ 1000000000000) (hi : i < 4294967296) : IntKind.i64.wrap (k + (i : Int) + 1) = k + ((i + 1 : Nat) : Int) := by
  rw [wrap_in (by omega)]; omega

set_option maxHeartbeats 2000000 in
set_option maxRecDepth 100000 in
theorem isp_markIntS {Sg : FuncId → Option (List AV → Option AV)} (hS : Sound Tryd.prog Sg) (l : List Int) (k : Int) (b : Nat) (L : List Blk) (hb : L[b]? = some ⟨1, l.map fun n => .int .i64 n⟩) (hl : l.length < 4294967296) (hk : -1000000000000 ≤ k ∧ k ≤ 1000000000000) : ISpec Tryd.prog 18 [.sl b l.length 0 l.length l.length, i64 k] L (fun r L' => r = i64 (k + l.length) ∧ L' = L.set b ⟨1, (mks k l.length).map fun n => .int .i64 n⟩) := by
  refine ISpec.intro Tryd.func18 rfl (vc_sound Tryd.pf hS _ _ _ ?_)
  have hbl : b < L.length := (List.getElem?_eq_some_iff.1 hb).1
  repeat' (first | with_reducible first | refine kI (by kernel_rfl) ?_ | (first | refine kB1 ?_ ?_ | refine kB2 ?_ ?_) <;> intro hp | (first | refine kD1 ?_ ?_ | refine kD2 ?_ ?_ | refine kS1 ?_ ?_ | refine kS2 ?_ ?_) <;> intro hp <;> try simp only [hp] | simp -implicitDefEqProofs (disch := omega) only [go_sem, Nat.reduceAdd, Nat.reduceSub, reduceCtorEq, Nat.reduceLT, Nat.reduceLeDiff, Nat.reduceEqDiff, Nat.reduceMul, Int.reduceToNat, ↓reduceIte, List.take_of_length_le, if_pos, if_neg, getD_tsrs, fillA_len, fillA_at, fillA_full, evApp_z0, evApp_z1, evApp_z2, evApp_z3, evApp_i6, List.getElem?_set_self, List.set_set, cnE, Tryd.ntmps18, Tryd.results18])
  refine LoopQ.mix (fun t0 L0 nn ss => ∃ (i : Nat) (_ : Unit), (∃ x : Nat → AV, ss = ⟨mixL 0 (.k :: .v (i64 (k + (i : Nat))) :: .k :: .k :: .k :: .v (i64 (i : Nat)) :: .s :: .s :: .s :: .s :: .s :: .s :: .s :: .s :: .s :: .s :: .s :: .s :: .k :: []) t0 x, L.set b ⟨1, (part k i l).map fun n => .int .i64 n⟩⟩) ∧ (i ≤ l.length) ∧ nn = l.length - i) ?_ ?_
  · exact ⟨_, 0, (), mixJ (by rw [show k + ((0 : Nat) : Int) = k from by omega]; rfl) (by rw [part_zero]; exact (set_same hb).symm), Nat.zero_le _, rfl⟩
  · rintro I0 hI0 n s ⟨i, _, ⟨x, rfl⟩, h1, rfl⟩
    have hpl := part_len (k := k) h1
    by_cases hlt : i < l.length
    · have hps := part_set (k := k) hlt
      have hw := wrap_mk hk (show i < 4294967296 by omega)
      repeat' (first | with_reducible first | refine kI (by kernel_rfl) ?_ | (first | refine kB1 ?_ ?_ | refine kB2 ?_ ?_) <;> intro hp | (first | refine kD1 ?_ ?_ | refine kD2 ?_ ?_ | refine kS1 ?_ ?_ | refine kS2 ?_ ?_) <;> intro hp <;> try simp only [hp] | simp -implicitDefEqProofs (disch := omega) only [go_sem, Nat.reduceAdd, Nat.reduceSub, reduceCtorEq, Nat.reduceLT, Nat.reduceLeDiff, Nat.reduceEqDiff, Nat.reduceMul, Int.reduceToNat, ↓reduceIte, List.take_of_length_le, if_pos, if_neg, getD_tsrs, fillA_len, fillA_at, fillA_full, evApp_z0, evApp_z1, evApp_z2, evApp_z3, evApp_i6, List.getElem?_set_self, List.set_set, cnE, Tryd.ntmps18, Tryd.results18,  hpl, hps, hw])
      exact ⟨l.length - (i + 1), by omega, hI0 _ _ ⟨i + 1, (), mixI rfl, hlt, rfl⟩⟩
    · obtain rfl : i = l.length := by omega
      repeat' (first | with_reducible first | refine kI (by kernel_rfl) ?_ | (first | refine kB1 ?_ ?_ | refine kB2 ?_ ?_) <;> intro hp | (first | refine kD1 ?_ ?_ | refine kD2 ?_ ?_ | refine kS1 ?_ ?_ | refine kS2 ?_ ?_) <;> intro hp <;> try simp only [hp] | simp -implicitDefEqProofs (disch := omega) only [go_sem, Nat.reduceAdd, Nat.reduceSub, reduceCtorEq, Nat.reduceLT, Nat.reduceLeDiff, Nat.reduceEqDiff, Nat.reduceMul, Int.reduceToNat, ↓reduceIte, List.take_of_length_le, if_pos, if_neg, getD_tsrs, fillA_len, fillA_at, fillA_full, evApp_z0, evApp_z1, evApp_z2, evApp_z3, evApp_i6, List.getElem?_set_self, List.set_set, cnE, Tryd.ntmps18, Tryd.results18,  hpl, part_full, mks_len])

theorem can_markI : CanCall Tryd.prog 18 := ⟨_, Tryd.func18, rfl, rfl⟩
set_option maxHeartbeats 2000000 in
set_option maxRecDepth 100000 in
theorem isp_markIntZ {Sg : FuncId → Option (List AV → Option AV)} (hS : Sound Tryd.prog Sg) (k : Int) (L : List Blk) : ISpec Tryd.prog 18 [.nilS, i64 k] L (fun r L' => r = i64 k ∧ L' = L) := by
  refine ISpec.intro Tryd.func18 rfl (vc_sound Tryd.pf hS _ _ _ ?_)
  repeat' (first | with_reducible first | refine kI (by kernel_rfl) ?_ | (first | refine kB1 ?_ ?_ | refine kB2 ?_ ?_) <;> intro hp | (first | refine kD1 ?_ ?_ | refine kD2 ?_ ?_ | refine kS1 ?_ ?_ | refine kS2 ?_ ?_) <;> intro hp <;> try simp only [hp] | simp -implicitDefEqProofs (disch := omega) only [go_sem, Nat.reduceAdd, Nat.reduceSub, reduceCtorEq, Nat.reduceLT, Nat.reduceLeDiff, Nat.reduceEqDiff, Nat.reduceMul, Int.reduceToNat, ↓reduceIte, List.take_of_length_le, if_pos, if_neg, getD_tsrs, fillA_len, fillA_at, fillA_full, evApp_z0, evApp_z1, evApp_z2, evApp_z3, evApp_i6, List.getElem?_set_self, List.set_set, cnE, Tryd.ntmps18, Tryd.results18])
  refine LoopQ.mix (fun t0 L0 nn ss => ∃ (j : Nat) (_ : Unit), (∃ x : Nat → AV, ss = ⟨mixL 0 (.k :: .v (i64 k) :: .k :: .k :: .k :: .v (i64 0) :: .s :: .s :: .s :: .s :: .s :: .s :: .s :: .s :: .s :: .s :: .s :: .s :: .k :: []) t0 x, L⟩) ∧ (True) ∧ nn = 0) ?_ ?_
  · exact ⟨_, ⟨0, (), mixI rfl, trivial, rfl⟩⟩
  · rintro I0 hI0 n s ⟨j, _, ⟨x, rfl⟩, g1, rfl⟩
    repeat' (first | with_reducible first | refine kI (by kernel_rfl) ?_ | (first | refine kB1 ?_ ?_ | refine kB2 ?_ ?_) <;> intro hp | (first | refine kD1 ?_ ?_ | refine kD2 ?_ ?_ | refine kS1 ?_ ?_ | refine kS2 ?_ ?_) <;> intro hp <;> try simp only [hp] | simp -implicitDefEqProofs (disch := omega) only [go_sem, Nat.reduceAdd, Nat.reduceSub, reduceCtorEq, Nat.reduceLT, Nat.reduceLeDiff, Nat.reduceEqDiff, Nat.reduceMul, Int.reduceToNat, ↓reduceIte, List.take_of_length_le, if_pos, if_neg, getD_tsrs, fillA_len, fillA_at, fillA_full, evApp_z0, evApp_z1, evApp_z2, evApp_z3, evApp_i6, List.getElem?_set_self, List.set_set, cnE, Tryd.ntmps18, Tryd.results18])
def gHeldI (l : List Int) (k : Int) : Option Int := gd (l.length < 4294967296 ∧ 0 ≤ k ∧ k ≤ 1000000000000 ∧ l = mks k l.length) (k + l.length)
theorem gHeldI_eq {l : List Int} {k : Int} (h : l.length < 4294967296 ∧ 0 ≤ k ∧ k ≤ 1000000000000 ∧ l = mks k l.length) : gHeldI l k = some (k + l.length) := gd_eq h
set_option maxHeartbeats 2000000 in
set_option maxRecDepth 100000 in
theorem spec_heldIntS {Sg : FuncId → Option (List AV → Option AV)} (hS : Sound Tryd.prog Sg) : ∀ a r, F2 gHeldI a = some r → CSpec Tryd.prog 19 a r := by
  refine spec2 Tryd.func19 rfl Tryd.pf hS ?_
  intro l k r hr
  obtain ⟨⟨h1, h2, h3, h4⟩, rfl⟩ := gd_some hr
  repeat' (first | with_reducible first | refine kI (by kernel_rfl) ?_ | (first | refine kB1 ?_ ?_ | refine kB2 ?_ ?_) <;> intro hp | (first | refine kD1 ?_ ?_ | refine kD2 ?_ ?_ | refine kS1 ?_ ?_ | refine kS2 ?_ ?_) <;> intro hp <;> try simp only [hp] | simp -implicitDefEqProofs (disch := omega) only [go_sem, Nat.reduceAdd, Nat.reduceSub, reduceCtorEq, Nat.reduceLT, Nat.reduceLeDiff, Nat.reduceEqDiff, Nat.reduceMul, Int.reduceToNat, ↓reduceIte, List.take_of_length_le, if_pos, if_neg, getD_tsrs, fillA_len, fillA_at, fillA_full, evApp_z0, evApp_z1, evApp_z2, evApp_z3, evApp_i6, List.getElem?_set_self, List.set_set, cnE, Tryd.ntmps19, Tryd.results19])
  refine LoopQ.mix (fun t0 L0 nn ss => ∃ (i : Nat) (_ : Unit), (∃ x : Nat → AV, ss = ⟨mixL 0 (.k :: .v (i64 (k + (i : Nat))) :: .k :: .k :: .s :: .v (i64 (i : Nat)) :: .s :: .s :: .s :: .s :: .s :: .s :: .s :: .s :: .s :: .s :: .s :: .s :: .s :: .s :: .k :: []) t0 x, L0⟩) ∧ (i ≤ l.length) ∧ nn = l.length - i) ?_ ?_
  · exact ⟨_, 0, (), mixI (by rw [show k + ((0 : Nat) : Int) = k from by omega]; rfl), Nat.zero_le _, rfl⟩
  · rintro I0 hI0 n s ⟨i, _, ⟨x, rfl⟩, g1, rfl⟩
    by_cases hlt : i < l.length
    · have hw := wrap_mk (k := k) (i := i) (by omega) (by omega)
      have hat : l.getD i 0 = k + (i : Int) := by rw [h4, mks_at hlt]
      repeat' (first | with_reducible first | refine kI (by kernel_rfl) ?_ | (first | refine kB1 ?_ ?_ | refine kB2 ?_ ?_) <;> intro hp | (first | refine kD1 ?_ ?_ | refine kD2 ?_ ?_ | refine kS1 ?_ ?_ | refine kS2 ?_ ?_) <;> intro hp <;> try simp only [hp] | simp -implicitDefEqProofs (disch := omega) only [go_sem, Nat.reduceAdd, Nat.reduceSub, reduceCtorEq, Nat.reduceLT, Nat.reduceLeDiff, Nat.reduceEqDiff, Nat.reduceMul, Int.reduceToNat, ↓reduceIte, List.take_of_length_le, if_pos, if_neg, getD_tsrs, fillA_len, fillA_at, fillA_full, evApp_z0, evApp_z1, evApp_z2, evApp_z3, evApp_i6, List.getElem?_set_self, List.set_set, cnE, Tryd.ntmps19, Tryd.results19,  hat, hw])
      exact ⟨l.length - (i + 1), by omega, hI0 _ _ ⟨i + 1, (), mixI rfl, hlt, rfl⟩⟩
    · obtain rfl : i = l.length := by omega
      repeat' (first | with_reducible first | refine kI (by kernel_rfl) ?_ | (first | refine kB1 ?_ ?_ | refine kB2 ?_ ?_) <;> intro hp | (first | refine kD1 ?_ ?_ | refine kD2 ?_ ?_ | refine kS1 ?_ ?_ | refine kS2 ?_ ?_) <;> intro hp <;> try simp only [hp] | simp -implicitDefEqProofs (disch := omega) only [go_sem, Nat.reduceAdd, Nat.reduceSub, reduceCtorEq, Nat.reduceLT, Nat.reduceLeDiff, Nat.reduceEqDiff, Nat.reduceMul, Int.reduceToNat, ↓reduceIte, List.take_of_length_le, if_pos, if_neg, getD_tsrs, fillA_len, fillA_at, fillA_full, evApp_z0, evApp_z1, evApp_z2, evApp_z3, evApp_i6, List.getElem?_set_self, List.set_set, cnE, Tryd.ntmps19, Tryd.results19])
end Go.Proofs.YtkmnepmnjpdpkaaDoor
namespace Go.Proofs.YtkmnepmnjpdpkaaDoor
open Go Go.Ev Go.RowKit Go.Ev.Enc Go.Pl

end Go.Proofs.YtkmnepmnjpdpkaaDoor
namespace Go.Proofs.YtkmnepmnjpdpkaaDoor
open Go Go.Ev Go.RowKit Go.Ev.Enc Go.Pl

def mmB (x y : Tsr) : Prop := (x.sh.length < 4294967296 ∧ x.vl.length < 4294967296) ∧ (y.sh.length < 4294967296 ∧ y.vl.length < 4294967296)
instance (x y : Tsr) : Decidable (mmB x y) := by unfold mmB; infer_instance
end Go.Proofs.YtkmnepmnjpdpkaaDoor
namespace Go.Proofs.YtkmnepmnjpdpkaaDoor
open Go Go.Ev Go.RowKit Go.Ev.Enc Go.Pl

theorem mks_take (k : Int) (n : Nat) : (mks k n).take n = mks k n := List.take_of_length_le (by rw [mks_len]; exact Nat.le_refl _)
end Go.Proofs.YtkmnepmnjpdpkaaDoor
