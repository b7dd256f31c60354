/- Contracts of functions that the laws of this seat call. -/
import Derived.Test.YtgpflkmelindfaaVn
set_option linter.all false
namespace Go.Proofs.Ytgpflkmelindfaa
open Go Go.Ev Go.RowKit Go.Ev.Enc Go.Pl

theorem rep_drop {A : List Int} (h : inC A) {k j : Nat} (hk : k < A.length) (hj : plc A (A.getD k 0) = (j : Int)) : (repF A).contains (A.getD k 0) = (A.drop (j + 1)).contains (A.getD k 0) := by
  rw [Bool.eq_iff_iff, List.contains_iff_mem, mem_rep]
  unfold repC
  rw [hj, Int.toNat_natCast, List.contains_iff_mem.2 (gmem hk), Bool.true_and]
  exact ⟨fun h' => h'.2, fun h' => ⟨h _ (gmem hk), h'⟩⟩
end Go.Proofs.Ytgpflkmelindfaa
