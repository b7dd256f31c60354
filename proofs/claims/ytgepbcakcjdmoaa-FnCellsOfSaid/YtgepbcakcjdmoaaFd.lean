/- Contracts of functions that the laws of this seat call. -/
import Derived.Test.YtgepbcakcjdmoaaFc
set_option linter.all false
namespace Go.Proofs.Ytgepbcakcjdmoaa
open Go Go.Ev Go.RowKit Go.Ev.Enc

def gCopyInts (l : List Int) : Option (List Int) := gd (l.length < 4294967296) l
theorem gCopyInts_eq {l : List Int} (h : l.length < 4294967296) : gCopyInts l = some l := gd_eq h
set_option maxHeartbeats 2000000 in
set_option maxRecDepth 100000 in
theorem spec_copyInts {Sg : FuncId → Option (List AV → Option AV)} (hS : Sound Try.prog Sg) : ∀ a r, F1 gCopyInts a = some r → CSpec Try.prog 110 a r := by
  refine spec1 Try.func110 rfl Try.pf hS ?_
  intro l r hr
  obtain ⟨hl, rfl⟩ := gd_some hr
  simp -implicitDefEqProofs only [go_sem, Nat.reduceAdd, Nat.reduceSub, reduceCtorEq, Nat.reduceLT, Nat.reduceLeDiff, Nat.reduceEqDiff, Nat.reduceMul, Int.reduceToNat, ↓reduceIte, Try.ntmps110, Try.results110, evApp_gen (L := [⟨1, []⟩]) (b := 0) (n := 0) (sz := 1) (by' := 8) (q := []) (new := l.map fun n => .int .i64 n) rfl rfl (by rw [List.length_map]; omega) (by rw [List.length_map]; omega)]

/-- the product of the extents of labels -/
def costW (e l : List Int) : Int := l.foldl (fun n x => IntKind.i64.wrap (n * e.getD x.toNat 0)) 1
theorem costW_take {e l : List Int} {k : Nat} (h : k < l.length) : IntKind.i64.wrap (costW e (l.take k) * e.getD (l.getD k 0).toNat 0) = costW e (l.take (k + 1)) := by
  rw [take_succ_getD h]; simp only [costW, List.foldl_append, List.foldl_cons, List.foldl_nil]
def gCostOver (e l : List Int) : Option Int := gd (l.length < 4294967296 ∧ ∀ i, i < l.length → 0 ≤ l.getD i 0 ∧ l.getD i 0 < e.length) (costW e l)
/-- the elements at some places -/
def tkn (l idx : List Int) : List Int := idx.map fun x => l.getD x.toNat 0
theorem tkn_take {e l : List Int} {k : Nat} (h : k < l.length) : tkn e (l.take k) ++ [e.getD (l.getD k 0).toNat 0] = tkn e (l.take (k + 1)) := by
  rw [take_succ_getD h]; simp only [tkn, List.map_append, List.map_cons, List.map_nil]
theorem tkn_len (e l : List Int) : (tkn e l).length = l.length := by simp [tkn]
def gTakenOf (e l : List Int) : Option (List Int) := gd (l.length < 4294967296 ∧ ∀ i, i < l.length → 0 ≤ l.getD i 0 ∧ l.getD i 0 < e.length) (tkn e l)
end Go.Proofs.Ytgepbcakcjdmoaa
