/- Contracts of functions that the laws of this seat call. -/
import Derived.Test.YtgpflkmelindfaaVu
set_option linter.all false
namespace Go.Proofs.Ytgpflkmelindfaa
open Go Go.Ev Go.RowKit Go.Ev.Enc Go.Pl

def viOK (v : Vi) : Prop := v.sh.length ≤ 4 ∧ v.st.length ≤ 5
theorem fr_two {g : Nat → Option Nat} {L : List Blk} {a b : Vi} : selV g L (.tup [viD a, viD b]) = .tup [viD a, viD b] := by
  rw [selV_tup]
  simp only [List.map_cons, List.map_nil, expE, selC_d, selC_int]
theorem fr_twoS {L : List Blk} {n k : Nat} {a v : Vi} (hk : n ≤ k) {m : Nat} (hm : v.st.length = m) (h : L[k]? = some (stB v.st)) : selV (gR n []) L (.tup [viD a, .agg [i64 v.b, ints 1 v.sh, .sl k m 0 m m]]) = .tup [viD a, viD v] := by
  subst hm
  rw [selV_tup]
  simp only [List.map_cons, List.map_nil, expE, selC_ints (gR_ge hk) h, selC_d, selC_int]
end Go.Proofs.Ytgpflkmelindfaa
