/- Contracts of functions that the laws of this seat call. -/
import Derived.Test.YtgepbcakcjdmoaaFacts
set_option linter.all false
namespace Go.Proofs.Ytgepbcakcjdmoaa
open Go Go.Ev Go.RowKit Go.Ev.Enc

def prodW (l : List Int) : Int := l.foldl (fun n e => IntKind.i64.wrap (n * e)) 1
theorem prodW_take {l : List Int} {k : Nat} (h : k < l.length) : IntKind.i64.wrap (prodW (l.take k) * l.getD k 0) = prodW (l.take (k + 1)) := by
  rw [take_succ_getD h]; simp only [prodW, List.foldl_append, List.foldl_cons, List.foldl_nil]
def gCountOf (l : List Int) : Option Int := gd (l.length < 4294967296) (prodW l)
theorem gCountOf_eq {l : List Int} (h : l.length < 4294967296) : gCountOf l = some (prodW l) := gd_eq h
theorem getD_pos {l : List Int} {k : Nat} (h : k < l.length) : l[k]? = some (l.getD k 0) := by simp [h]

set_option maxHeartbeats 2000000 in
set_option maxRecDepth 100000 in
theorem spec_countOf {Sg : FuncId → Option (List AV → Option AV)} (hS : Sound Try.prog Sg) : ∀ a r, F1 gCountOf a = some r → CSpec Try.prog 74 a r := by
  refine spec1 Try.func74 rfl Try.pf hS ?_
  intro l r hr
  obtain ⟨hl, rfl⟩ := gd_some hr
  simp -implicitDefEqProofs only [go_sem, Nat.reduceAdd, Nat.reduceSub, reduceCtorEq, Nat.reduceLT, Nat.reduceLeDiff, Nat.reduceEqDiff, Nat.reduceMul, Int.reduceToNat, ↓reduceIte, Try.ntmps74, Try.results74]
  refine LoopQ.mix (fun t0 L0 nn ss => ∃ (k : Nat) (_ : Unit), (∃ x : Nat → AV, ss = ⟨mixL 0 (.k :: .k :: .k :: .v (i64 (prodW (l.take k))) :: .k :: .s :: .k :: .k :: .v (i64 (k : Nat)) :: .s :: .s :: .s :: .s :: .s :: .s :: .s :: .k :: []) t0 x, L0⟩) ∧ (k ≤ l.length) ∧ nn = l.length - k) ⟨l.length, ?_⟩ ?_
  · exact ⟨0, (), mixI rfl, Nat.zero_le _, rfl⟩
  · rintro I0 hI0 n s ⟨k, _, ⟨x, rfl⟩, h1, rfl⟩
    by_cases hlt : k < l.length
    · simp -implicitDefEqProofs only [go_sem, Nat.reduceAdd, Nat.reduceSub, reduceCtorEq, Nat.reduceLT, Nat.reduceLeDiff, Nat.reduceEqDiff, Nat.reduceMul, Int.reduceToNat, ↓reduceIte, Try.ntmps74, Try.results74, Int.ofNat_lt, hlt, getD_ints hlt, wrap_succ (show k < 9223372036854775807 by omega), prodW_take hlt]
      exact ⟨l.length - (k + 1), by omega, hI0 _ _ ⟨k + 1, (), mixI rfl, hlt, rfl⟩⟩
    · obtain rfl : k = l.length := by omega
      simp -implicitDefEqProofs only [go_sem, Nat.reduceAdd, Nat.reduceSub, reduceCtorEq, Nat.reduceLT, Nat.reduceLeDiff, Nat.reduceEqDiff, Nat.reduceMul, Int.reduceToNat, ↓reduceIte, Try.ntmps74, Try.results74, Int.ofNat_lt, hlt]

def inExt (e : Int) : Bool := decide (0 ≤ e) && decide (e ≤ 60)
def shapeOK (l : List Int) : Bool := decide (l.length ≤ 4) && l.all inExt && decide (prodW l ≤ 60)
def gIsShape (l : List Int) : Option Bool := gd (l.length < 4294967296) (shapeOK l)
theorem gIsShape_eq {l : List Int} (h : l.length < 4294967296) : gIsShape l = some (shapeOK l) := gd_eq h

set_option maxHeartbeats 2000000 in
set_option maxRecDepth 100000 in
theorem spec_isShape {Sg : FuncId → Option (List AV → Option AV)} (hS : Sound Try.prog Sg) (hc : Sg 74 = some (F1 gCountOf)) : ∀ a r, F1 gIsShape a = some r → CSpec Try.prog 73 a r := by
  refine spec1 Try.func73 rfl Try.pf hS ?_
  intro l r hr
  obtain ⟨hl, rfl⟩ := gd_some hr
  by_cases h4 : l.length ≤ 4
  · have h4' : ¬ (4 : Int) < (l.length : Int) := by omega
    simp -implicitDefEqProofs only [go_sem, Nat.reduceAdd, Nat.reduceSub, reduceCtorEq, Nat.reduceLT, Nat.reduceLeDiff, Nat.reduceEqDiff, Nat.reduceMul, Int.reduceToNat, ↓reduceIte, Try.ntmps73, Try.results73, h4']
    refine LoopQ.mix (fun t0 L0 nn ss => ∃ (k : Nat) (_ : Unit), (∃ x : Nat → AV, ss = ⟨mixL 0 (.k :: .k :: .s :: .k :: .s :: .k :: .k :: .k :: .k :: .k :: .v (i64 (k : Nat)) :: .s :: .s :: .s :: .s :: .s :: .s :: .s :: .s :: .s :: .s :: .k :: .k :: .k :: []) t0 x, L0⟩) ∧ (k ≤ l.length) ∧ ((l.take k).all inExt = true) ∧ nn = l.length - k) ⟨l.length, ?_⟩ ?_
    · exact ⟨0, (), mixI rfl, Nat.zero_le _, rfl, rfl⟩
    · rintro I0 hI0 n s ⟨k, _, ⟨x, rfl⟩, h1, h2, rfl⟩
      by_cases hlt : k < l.length
      · have ea := all_take (p := inExt) hlt
        rw [h2, Bool.true_and] at ea
        by_cases ha : l.getD k 0 < 0
        · have hf := all_false (p := inExt) hlt (by simp [inExt]; intro h; exfalso; simp at ha; omega)
          simp -implicitDefEqProofs only [go_sem, Nat.reduceAdd, Nat.reduceSub, reduceCtorEq, Nat.reduceLT, Nat.reduceLeDiff, Nat.reduceEqDiff, Nat.reduceMul, Int.reduceToNat, ↓reduceIte, Try.ntmps73, Try.results73, Int.ofNat_lt, hlt, getD_ints hlt, ha]
          simp [shapeOK, hf]
        · by_cases hb : 60 < l.getD k 0
          · have hf := all_false (p := inExt) hlt (by simp only [inExt, Bool.and_eq_false_iff, decide_eq_false_iff_not]; right; omega)
            simp -implicitDefEqProofs only [go_sem, Nat.reduceAdd, Nat.reduceSub, reduceCtorEq, Nat.reduceLT, Nat.reduceLeDiff, Nat.reduceEqDiff, Nat.reduceMul, Int.reduceToNat, ↓reduceIte, Try.ntmps73, Try.results73, Int.ofNat_lt, hlt, getD_ints hlt, ha, hb]
            simp [shapeOK, hf]
          · have hg : inExt (l.getD k 0) = true := by simp only [inExt, Bool.and_eq_true, decide_eq_true_eq]; omega
            rw [hg] at ea
            simp -implicitDefEqProofs only [go_sem, Nat.reduceAdd, Nat.reduceSub, reduceCtorEq, Nat.reduceLT, Nat.reduceLeDiff, Nat.reduceEqDiff, Nat.reduceMul, Int.reduceToNat, ↓reduceIte, Try.ntmps73, Try.results73, Int.ofNat_lt, hlt, getD_ints hlt, ha, hb, wrap_succ (show k < 9223372036854775807 by omega)]
            exact ⟨l.length - (k + 1), by omega, hI0 _ _ ⟨k + 1, (), mixI rfl, hlt, ea, rfl⟩⟩
      · obtain rfl : k = l.length := by omega
        rw [List.take_length] at h2
        simp -implicitDefEqProofs only [go_sem, Nat.reduceAdd, Nat.reduceSub, reduceCtorEq, Nat.reduceLT, Nat.reduceLeDiff, Nat.reduceEqDiff, Nat.reduceMul, Int.reduceToNat, ↓reduceIte, Try.ntmps73, Try.results73, Int.ofNat_lt, hlt, hc, gCountOf_eq hl]
        simp [shapeOK, h2, h4]
  · have h4' : (4 : Int) < (l.length : Int) := by omega
    simp -implicitDefEqProofs only [go_sem, Nat.reduceAdd, Nat.reduceSub, reduceCtorEq, Nat.reduceLT, Nat.reduceLeDiff, Nat.reduceEqDiff, Nat.reduceMul, Int.reduceToNat, ↓reduceIte, Try.ntmps73, Try.results73, h4']
    simp [shapeOK, h4]

/-- the index is one of the shape -/
def idxAll (shape index : List Int) (k : Nat) : Prop := ∀ i, i < k → 0 ≤ index.getD i 0 ∧ index.getD i 0 < shape.getD i 0
def idxOK (shape index : List Int) : Bool := decide (index.length = shape.length) && decide (∀ i, i < index.length → 0 ≤ index.getD i 0 ∧ index.getD i 0 < shape.getD i 0)
theorem idxOK_false {s i : List Int} {k : Nat} (hk : k < i.length) (h : ¬ (0 ≤ i.getD k 0 ∧ i.getD k 0 < s.getD k 0)) : idxOK s i = false := by
  unfold idxOK
  rw [Bool.and_eq_false_iff, decide_eq_false_iff_not, decide_eq_false_iff_not]
  exact Or.inr fun g => h (g k hk)
theorem idxOK_true {s i : List Int} (hl : i.length = s.length) (h : idxAll s i i.length) : idxOK s i = true := by
  unfold idxOK
  rw [Bool.and_eq_true, decide_eq_true_eq, decide_eq_true_eq]
  exact ⟨hl, h⟩
def gIsIndex (shape index : List Int) : Option Bool := gd (shape.length < 4294967296 ∧ index.length < 4294967296) (idxOK shape index)
theorem gIsIndex_eq {s i : List Int} (h : s.length < 4294967296) (h' : i.length < 4294967296) : gIsIndex s i = some (idxOK s i) := gd_eq ⟨h, h'⟩

end Go.Proofs.Ytgepbcakcjdmoaa
