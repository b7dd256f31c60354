/- Contracts of functions that the laws of this seat call. -/
import Derived.Test.YtgepbcakcjdmoaaFy
set_option linter.all false
namespace Go.Proofs.Ytgepbcakcjdmoaa
open Go Go.Ev Go.RowKit Go.Ev.Enc Go.Pl

theorem oR_two {t : Tsr} (h : t.sh.length = 2) (n : Nat) : oR (t, true) n = .tup [tsrA n (n + 1) t, .bool true] := by
  obtain ⟨sh, vl⟩ := t
  match sh, h with
  | [a, b], _ => rfl
theorem oN_two {t : Tsr} (h : t.sh.length = 2) (n : Nat) : oN (t, true) n = [⟨1, t.sh.map fun n => .int .i64 n⟩, ⟨1, t.vl.map fun n => .int .i64 n⟩] := by
  obtain ⟨sh, vl⟩ := t
  match sh, h with
  | [a, b], _ => rfl
theorem mks_take (k : Int) (n : Nat) : (mks k n).take n = mks k n := List.take_of_length_le (by rw [mks_len]; exact Nat.le_refl _)
theorem dec_zz : (dec (.agg [.ds 0 [], .ds 0 []]) : Option Tsr) = some ⟨[], []⟩ := (ok _ _).2 rfl
theorem oR_bad (n : Nat) : oR (⟨[], []⟩, false) n = .tup [.agg [.nilS, .nilS], .bool false] := rfl
theorem oN_bad (n : Nat) : oN (⟨[], []⟩, false) n = [] := rfl
def gTrueM (x y : Tsr) : Option Bool := gd (tsrBig x ∧ tsrBig y) true
end Go.Proofs.Ytgepbcakcjdmoaa
