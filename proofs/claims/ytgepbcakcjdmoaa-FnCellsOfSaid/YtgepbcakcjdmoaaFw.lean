/- Contracts of functions that the laws of this seat call. -/
import Derived.Test.YtgepbcakcjdmoaaFv
import Derived.Test.YtgepbcakcjdmoaaEvC
set_option linter.all false
namespace Go.Proofs.Ytgepbcakcjdmoaa
open Go Go.Ev Go.RowKit Go.Ev.Enc Go.Pl

/-- the numbers from k on -/
def mks (k : Int) (n : Nat) : List Int := (List.range n).map fun i : Nat => k + (i : Int)
theorem mks_len (k : Int) (n : Nat) : (mks k n).length = n := by simp [mks]
theorem mks_at {k : Int} {n i : Nat} (h : i < n) : (mks k n).getD i 0 = k + (i : Int) := by simp [mks, h]
def part (k : Int) (i : Nat) (l : List Int) : List Int := mks k i ++ l.drop i
theorem part_len {k : Int} {i : Nat} {l : List Int} (h : i ≤ l.length) : (part k i l).length = l.length := by simp [part, mks]; omega
theorem part_zero (k : Int) (l : List Int) : part k 0 l = l := rfl
theorem part_full (k : Int) (l : List Int) : part k l.length l = mks k l.length := by simp [part]
theorem part_set {k : Int} {i : Nat} {l : List Int} (h : i < l.length) : (part k i l).set i (k + (i : Int)) = part k (i + 1) l := by
  unfold part
  rw [List.set_append_right _ _ (by rw [mks_len]; exact Nat.le_refl _), mks_len, Nat.sub_self, List.drop_eq_getElem_cons h, List.set_cons_zero]
  unfold mks
  rw [List.range_succ, List.map_append, List.append_assoc]
  rfl
theorem wrap_mk {k : Int} {i : Nat} (hk : -1000000000000 ≤ k ∧ k ≤ 1000000000000) (hi : i < 4294967296) : IntKind.i64.wrap (k + (i : Int) + 1) = k + ((i + 1 : Nat) : Int) := by
  rw [wrap_in (by omega)]; omega

theorem renB_ints (g : Nat → Option Nat) (l : List Int) : renB g ⟨1, l.map fun n => .int .i64 n⟩ = ⟨1, l.map fun n => .int .i64 n⟩ := by simp [renB, renC, expE, Function.comp_def]
/-- a tensor in blocks of its own -/
abbrev tsrA (b c : Nat) (x : Tsr) : AV := .agg [.sl b x.sh.length 0 x.sh.length x.sh.length, .sl c x.vl.length 0 x.vl.length x.vl.length]
theorem one_ne {a b : Int} (h : a = b) : (!(a == b)) = false := by subst h; simp
def gHeldI (l : List Int) (k : Int) : Option Int := gd (l.length < 4294967296 ∧ 0 ≤ k ∧ k ≤ 1000000000000 ∧ l = mks k l.length) (k + l.length)
theorem gHeldI_eq {l : List Int} {k : Int} (h : l.length < 4294967296 ∧ 0 ≤ k ∧ k ≤ 1000000000000 ∧ l = mks k l.length) : gHeldI l k = some (k + l.length) := gd_eq h
def gHeldT (x : Tsr) (k : Int) : Option Int := gd (x.sh.length < 4294967296 ∧ x.vl.length < 4294967296 ∧ 0 ≤ k ∧ k ≤ 100000000000 ∧ x.sh = mks k x.sh.length ∧ x.vl = mks (k + x.sh.length) x.vl.length) (k + x.sh.length + x.vl.length)
theorem gHeldT_eq {x : Tsr} {k : Int} (h : x.sh.length < 4294967296 ∧ x.vl.length < 4294967296 ∧ 0 ≤ k ∧ k ≤ 100000000000 ∧ x.sh = mks k x.sh.length ∧ x.vl = mks (k + x.sh.length) x.vl.length) : gHeldT x k = some (k + x.sh.length + x.vl.length) := gd_eq h
/-! copies in blocks of their own -/
end Go.Proofs.Ytgepbcakcjdmoaa
