/- Contracts of functions that the laws of this seat call. -/
import Derived.Test.YtkmnepmnjpdpkaaDoorXo
set_option linter.all false
namespace Go.Proofs.YtkmnepmnjpdpkaaDoor
open Go Go.Ev Go.RowKit Go.Ev.Enc Go.Pl

theorem nmA_all : nmA.all AV.isCell = true := rfl
theorem dec_nmA : (dec (.ds 0 nmA) : Option (List ByteArray)) = some nmB := dec_strs nmB
theorem ee_nmA (L : List Blk) : expE (expC 0 L) (.ds 0 nmA) = .ds 0 nmA := ee_strs 0 0 L nmB
theorem ato_cases (u : List UInt8) : (∃ v, wInt u = some v ∧ atoF u = ⟨v, false⟩ ∧ u = Lib.itoa v ∧ i64R v) ∨ (wInt u = none ∧ (atoF u).e = true) ∨ (wInt u = none ∧ ∃ v, atoF u = ⟨v, false⟩ ∧ u ≠ Lib.itoa v ∧ i64R v) := by
  unfold wInt atoF
  cases h : Lib.atoiAll u
  · rename_i v
    have hb := Lib.atoiAll_bounds h
    dsimp only
    by_cases e : Lib.itoa v = u
    · rw [if_pos e]
      exact .inl ⟨v, rfl, rfl, e.symm, hb⟩
    · rw [if_neg e]
      exact .inr (.inr ⟨rfl, v, rfl, fun e' => e e'.symm, hb⟩)
  · exact .inr (.inl ⟨rfl, rfl⟩)
  · exact .inr (.inl ⟨rfl, rfl⟩)
theorem w_fail {r : List (List UInt8)} {i : Nat} {l : List Int} (hi : i < r.length) (h : wInts (r.take i) = some l) (hb : wInt (r.getD i []) = none) : wInts r = none := by
  have e := List.take_append_drop (i + 1) r
  rw [← e]
  apply wInts_none
  rw [take_sn0 hi, wInts_snoc, h, Option.bind_some, hb]
  rfl
theorem w_next {r : List (List UInt8)} {i : Nat} {l : List Int} {x : Int} (hi : i < r.length) (h : wInts (r.take i) = some l) (hb : wInt (r.getD i []) = some x) : wInts (r.take (i + 1)) = some (l ++ [x]) := by
  rw [take_sn0 hi, wInts_snoc, h, Option.bind_some, hb]
  rfl
theorem num_cmp2 (n : Int) (u : List UInt8) : ((numB n).toList == (bs u).toList) = decide (u = Lib.itoa n) := by
  rw [strEq]
  congr 1
  apply propext
  unfold numB
  exact ⟨fun h => (bs_inj h).symm, fun h => by rw [h]⟩
end Go.Proofs.YtkmnepmnjpdpkaaDoor
