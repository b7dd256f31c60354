/- Contracts of functions that the laws of this seat call. -/
import Derived.Test.YtfjhhbpipococaaFc
set_option linter.all false
namespace Go.Proofs.Ytfjhhbpipococaa
open Go Go.Ev Go.RowKit Go.Ev.Enc

def gCopyInts (l : List Int) : Option (List Int) := gd (l.length < 4294967296) l
theorem gCopyInts_eq {l : List Int} (h : l.length < 4294967296) : gCopyInts l = some l := gd_eq h
set_option maxHeartbeats 2000000 in
set_option maxRecDepth 100000 in
theorem spec_copyInts {Sg : FuncId → Option (List AV → Option AV)} (hS : Sound Try.prog Sg) : ∀ a r, F1 gCopyInts a = some r → CSpec Try.prog 93 a r := by
  refine spec1 Try.func93 rfl Try.pf hS ?_
  intro l r hr
  obtain ⟨hl, rfl⟩ := gd_some hr
  simp -implicitDefEqProofs only [go_sem, Nat.reduceAdd, Nat.reduceSub, reduceCtorEq, Nat.reduceLT, Nat.reduceLeDiff, Nat.reduceEqDiff, Nat.reduceMul, Int.reduceToNat, ↓reduceIte, Try.ntmps93, Try.results93, evApp_gen (L := [⟨1, []⟩]) (b := 0) (n := 0) (sz := 1) (by' := 8) (q := []) (new := l.map fun n => .int .i64 n) rfl rfl (by rw [List.length_map]; omega) (by rw [List.length_map]; omega)]

/-- the product of the extents of labels -/
def costW (e l : List Int) : Int := l.foldl (fun n x => IntKind.i64.wrap (n * e.getD x.toNat 0)) 1
theorem costW_take {e l : List Int} {k : Nat} (h : k < l.length) : IntKind.i64.wrap (costW e (l.take k) * e.getD (l.getD k 0).toNat 0) = costW e (l.take (k + 1)) := by
  rw [take_succ_getD h]; simp only [costW, List.foldl_append, List.foldl_cons, List.foldl_nil]
def gCostOver (e l : List Int) : Option Int := gd (l.length < 4294967296 ∧ ∀ i, i < l.length → 0 ≤ l.getD i 0 ∧ l.getD i 0 < e.length) (costW e l)
set_option maxHeartbeats 2000000 in
set_option maxRecDepth 100000 in
theorem spec_costOver {Sg : FuncId → Option (List AV → Option AV)} (hS : Sound Try.prog Sg) : ∀ a r, F2 gCostOver a = some r → CSpec Try.prog 74 a r := by
  refine spec2 Try.func74 rfl Try.pf hS ?_
  intro e l r hr
  obtain ⟨⟨hl, hi⟩, rfl⟩ := gd_some hr
  simp -implicitDefEqProofs only [go_sem, Nat.reduceAdd, Nat.reduceSub, reduceCtorEq, Nat.reduceLT, Nat.reduceLeDiff, Nat.reduceEqDiff, Nat.reduceMul, Int.reduceToNat, ↓reduceIte, Try.ntmps74, Try.results74]
  refine LoopQ.mix (fun t0 L0 nn ss => ∃ (k : Nat) (_ : Unit), (∃ x : Nat → AV, ss = ⟨mixL 0 (.k :: .k :: .k :: .k :: .k :: .v (i64 (costW e (l.take k))) :: .k :: .s :: .k :: .k :: .v (i64 (k : Nat)) :: .s :: .s :: .s :: .s :: .s :: .s :: .s :: .s :: .s :: .s :: .k :: []) t0 x, L0⟩) ∧ (k ≤ l.length) ∧ nn = l.length - k) ⟨l.length, ?_⟩ ?_
  · exact ⟨0, (), mixI rfl, Nat.zero_le _, rfl⟩
  · rintro I0 hI0 n s ⟨k, _, ⟨x, rfl⟩, h1, rfl⟩
    by_cases hlt : k < l.length
    · obtain ⟨i1, i2⟩ := hi k hlt
      simp -implicitDefEqProofs only [go_sem, Nat.reduceAdd, Nat.reduceSub, reduceCtorEq, Nat.reduceLT, Nat.reduceLeDiff, Nat.reduceEqDiff, Nat.reduceMul, Int.reduceToNat, ↓reduceIte, Try.ntmps74, Try.results74, Int.ofNat_lt, hlt, getD_ints hlt, i1, i2, getD_ints (show (l.getD k 0).toNat < e.length by omega), wrap_succ (show k < 9223372036854775807 by omega), costW_take hlt]
      exact ⟨l.length - (k + 1), by omega, hI0 _ _ ⟨k + 1, (), mixI rfl, hlt, rfl⟩⟩
    · obtain rfl : k = l.length := by omega
      simp -implicitDefEqProofs only [go_sem, Nat.reduceAdd, Nat.reduceSub, reduceCtorEq, Nat.reduceLT, Nat.reduceLeDiff, Nat.reduceEqDiff, Nat.reduceMul, Int.reduceToNat, ↓reduceIte, Try.ntmps74, Try.results74, Int.ofNat_lt, hlt]

/-- the elements at some places -/
def tkn (l idx : List Int) : List Int := idx.map fun x => l.getD x.toNat 0
theorem tkn_take {e l : List Int} {k : Nat} (h : k < l.length) : tkn e (l.take k) ++ [e.getD (l.getD k 0).toNat 0] = tkn e (l.take (k + 1)) := by
  rw [take_succ_getD h]; simp only [tkn, List.map_append, List.map_cons, List.map_nil]
theorem tkn_len (e l : List Int) : (tkn e l).length = l.length := by simp [tkn]
def gTakenOf (e l : List Int) : Option (List Int) := gd (l.length < 4294967296 ∧ ∀ i, i < l.length → 0 ≤ l.getD i 0 ∧ l.getD i 0 < e.length) (tkn e l)
set_option maxHeartbeats 2000000 in
set_option maxRecDepth 100000 in
theorem spec_takenOf {Sg : FuncId → Option (List AV → Option AV)} (hS : Sound Try.prog Sg) : ∀ a r, F2 gTakenOf a = some r → CSpec Try.prog 76 a r := by
  refine spec2 Try.func76 rfl Try.pf hS ?_
  intro e l r hr
  obtain ⟨⟨hl, hi⟩, rfl⟩ := gd_some hr
  simp -implicitDefEqProofs only [go_sem, Nat.reduceAdd, Nat.reduceSub, reduceCtorEq, Nat.reduceLT, Nat.reduceLeDiff, Nat.reduceEqDiff, Nat.reduceMul, Int.reduceToNat, ↓reduceIte, Try.ntmps76, Try.results76]
  refine LoopQ.mix (fun t0 L0 nn ss => ∃ (k : Nat) (_ : Unit), (∃ x : Nat → AV, ss = ⟨mixL 0 (.k :: .k :: .k :: .k :: .k :: .v (.sl 0 k 0 k k) :: .k :: .s :: .k :: .k :: .k :: .v (i64 (k : Nat)) :: .s :: .s :: .s :: .s :: .s :: .s :: .s :: .s :: .s :: .s :: .s :: .k :: []) t0 x, [⟨1, (tkn e (l.take k)).map fun n => .int .i64 n⟩]⟩) ∧ (k ≤ l.length) ∧ nn = l.length - k) ⟨l.length, ?_⟩ ?_
  · exact ⟨0, (), mixI rfl, Nat.zero_le _, rfl⟩
  · rintro I0 hI0 n s ⟨k, _, ⟨x, rfl⟩, h1, rfl⟩
    by_cases hlt : k < l.length
    · obtain ⟨i1, i2⟩ := hi k hlt
      simp -implicitDefEqProofs only [go_sem, Nat.reduceAdd, Nat.reduceSub, reduceCtorEq, Nat.reduceLT, Nat.reduceLeDiff, Nat.reduceEqDiff, Nat.reduceMul, Int.reduceToNat, ↓reduceIte, Try.ntmps76, Try.results76, Int.ofNat_lt, hlt, getD_ints hlt, i1, i2, getD_ints (show (l.getD k 0).toNat < e.length by omega), wrap_succ (show k < 9223372036854775807 by omega), evApp_int (L := [⟨1, (tkn e (l.take k)).map fun n => .int .i64 n⟩]) (b := 0) (n := k) (by' := 8) (q := tkn e (l.take k)) rfl (by simp [tkn, h1]) (by omega) (by omega), tkn_take hlt]
      exact ⟨l.length - (k + 1), by omega, hI0 _ _ ⟨k + 1, (), mixI rfl, hlt, rfl⟩⟩
    · obtain rfl : k = l.length := by omega
      simp -implicitDefEqProofs only [go_sem, Nat.reduceAdd, Nat.reduceSub, reduceCtorEq, Nat.reduceLT, Nat.reduceLeDiff, Nat.reduceEqDiff, Nat.reduceMul, Int.reduceToNat, ↓reduceIte, Try.ntmps76, Try.results76, Int.ofNat_lt, hlt, tkn_len]
      rw [← tkn_len e l, List.take_length]
end Go.Proofs.Ytfjhhbpipococaa
