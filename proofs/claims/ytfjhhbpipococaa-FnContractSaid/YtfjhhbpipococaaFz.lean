/- Contracts of functions that the laws of this seat call. -/
import Derived.Test.YtfjhhbpipococaaFy
set_option linter.all false
namespace Go.Proofs.Ytfjhhbpipococaa
open Go Go.Ev Go.RowKit Go.Ev.Enc Go.Pl

theorem oR_two {t : Tsr} (h : t.sh.length = 2) (n : Nat) : oR (t, true) n = .tup [tsrA n (n + 1) t, .bool true] := by
  obtain ⟨sh, vl⟩ := t
  match sh, h with
  | [a, b], _ => rfl
theorem oN_two {t : Tsr} (h : t.sh.length = 2) (n : Nat) : oN (t, true) n = [⟨1, t.sh.map fun n => .int .i64 n⟩, ⟨1, t.vl.map fun n => .int .i64 n⟩] := by
  obtain ⟨sh, vl⟩ := t
  match sh, h with
  | [a, b], _ => rfl
theorem mks_take (k : Int) (n : Nat) : (mks k n).take n = mks k n := List.take_of_length_le (by rw [mks_len]; exact Nat.le_refl _)
theorem dec_zz : (dec (.agg [.ds 0 [], .ds 0 []]) : Option Tsr) = some ⟨[], []⟩ := (ok _ _).2 rfl
theorem oR_bad (n : Nat) : oR (⟨[], []⟩, false) n = .tup [.agg [.nilS, .nilS], .bool false] := rfl
theorem oN_bad (n : Nat) : oN (⟨[], []⟩, false) n = [] := rfl
theorem can_toT : CanCall Try.prog 47 := ⟨_, Try.func47, rfl, rfl⟩
theorem can_markT : CanCall Try.prog 22 := ⟨_, Try.func22, rfl, rfl⟩
def OToT : Prop := ∀ x : Tsr, (x.sh.length ≤ 1048576 ∧ x.vl.length ≤ 1048576) → OSpec Try.prog 47 [.agg [ints 0 x.sh, ints 0 x.vl]] (fun n => tsrA n (n + 1) x) (fun _ => [⟨1, x.sh.map fun n => .int .i64 n⟩, ⟨1, x.vl.map fun n => .int .i64 n⟩])
def IMarkT : Prop := ∀ (x : Tsr) (k : Int) (b c : Nat) (L : List Blk), L[b]? = some ⟨1, x.sh.map fun n => .int .i64 n⟩ → L[c]? = some ⟨1, x.vl.map fun n => .int .i64 n⟩ → b ≠ c → (x.sh.length < 4294967296 ∧ x.vl.length < 4294967296) → (0 ≤ k ∧ k ≤ 100000000000) →
  ISpec Try.prog 22 [tsrA b c x, i64 k] L (fun r L' => r = i64 (k + x.sh.length + x.vl.length) ∧ L' = (L.set b ⟨1, (mks k x.sh.length).map fun n => .int .i64 n⟩).set c ⟨1, (mks (k + x.sh.length) x.vl.length).map fun n => .int .i64 n⟩ ++ [⟨2, [tsrA b c x]⟩])
def IMarkZ : Prop := ∀ (k : Int) (L : List Blk), ISpec Try.prog 22 [.agg [.nilS, .nilS], i64 k] L (fun r L' => r = i64 k ∧ L' = L ++ [⟨2, [.agg [.nilS, .nilS]]⟩])
def gTrueM (x y : Tsr) : Option Bool := gd (tsrBig x ∧ tsrBig y) true
end Go.Proofs.Ytfjhhbpipococaa
