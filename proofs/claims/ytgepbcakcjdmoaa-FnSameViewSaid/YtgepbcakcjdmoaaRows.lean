/-
  No cell of these rows narrows 'for every input' (looked for: loops, veiled, ifaces, maps, wideKeys, modest, calm, conditions, laid).
  DERIVED. THE GIVEN ROWS OF THIS SEAT. 12 by the template 'for every input the law returns true; each argument reads behind the call as it read before'; 0 by the template 'total and deterministic' (their statements: YtgepbcakcjdmoaaTotals.lean).
  GIVEN WITH THE SEED: the statements are not yours to turn. If you find one false, say at which input.
  Laid BY PROGRAM, IN A SANDBOX (cutbox-rows.mjs): the forced cells as the released guide's own fill.sh prints them over the translation 2a62a8b41707d961… (all of the seat's roots in one cut). By AI agents, Wed Nov 11 2026. No macro, syntax, notation, axiom, sorry.
-/
import Derived.Test.YtgepbcakcjdmoaaChecked
import GoSem.Claim
import GoSem.ClaimJoined
import GoSem.ClaimMapViews
import Derived.JoinedTies
import Derived.KernelRfl
namespace Go.Proofs.Ytgepbcakcjdmoaa
/- THE CELL 'sum', in the pinned program and in every row, IS THE sha256 OF THE DUMP (.gsa) THAT YtgepbcakcjdmoaaProg.lean LOADS. Nothing in Lean hashes anything: it is a label: what it is worth is what the hold of that sum in a sandbox is worth. -/
noncomputable def Try.pinned : Pinned := { name := "ytgepbcakcjdmoaa", sum := "2a62a8b41707d961a745a1d0471433dc171674445c71956b205349f49ddd66b7", checked := Try.checked }
namespace Rows
def none {H : Type} : Left H := { results := [], args := [] }

/-- 'laws.FnIsOneToOne': WHATEVER THE INPUT: true; the input reads as it did. -/
def fnIsOneToOneSpec : ChangeSpec := { name := "fnIsOneToOne", fn := fun _ => fun
  | [d] => { results := [.lit (.bool true)], args := [d] }
  | _ => none }
def fnIsOneToOneRow : OpenClaim := { program := "ytgepbcakcjdmoaa", sum := "2a62a8b41707d961a745a1d0471433dc171674445c71956b205349f49ddd66b7", func := "loop.example/strideviews/laws.FnIsOneToOne", spec := "fnIsOneToOne", unfollowed := true, recurses := true, apart := false }
def FnIsOneToOneSaid : Prop := fnIsOneToOneRow.holds Try.pinned (OpenSpec.ofChange fnIsOneToOneSpec)

/-- ITS FALSE NEIGHBOUR: 'it returns false'. Refute it at one input. -/
def fnIsOneToOneWrong : ChangeSpec := { name := "fnIsOneToOne", fn := fun _ => fun
  | [d] => { results := [.lit (.bool false)], args := [d] }
  | _ => none }
def FnIsOneToOneWrongFalsely : Prop := fnIsOneToOneRow.holds Try.pinned (OpenSpec.ofChange fnIsOneToOneWrong)

/-- 'laws.FnCellsOf': WHATEVER THE INPUT: true; the input reads as it did. -/
def fnCellsOfSpec : ChangeSpec := { name := "fnCellsOf", fn := fun _ => fun
  | [d] => { results := [.lit (.bool true)], args := [d] }
  | _ => none }
def fnCellsOfRow : OpenClaim := { program := "ytgepbcakcjdmoaa", sum := "2a62a8b41707d961a745a1d0471433dc171674445c71956b205349f49ddd66b7", func := "loop.example/strideviews/laws.FnCellsOf", spec := "fnCellsOf", unfollowed := true, recurses := true, apart := false }
def FnCellsOfSaid : Prop := fnCellsOfRow.holds Try.pinned (OpenSpec.ofChange fnCellsOfSpec)

/-- ITS FALSE NEIGHBOUR: 'it returns false'. Refute it at one input. -/
def fnCellsOfWrong : ChangeSpec := { name := "fnCellsOf", fn := fun _ => fun
  | [d] => { results := [.lit (.bool false)], args := [d] }
  | _ => none }
def FnCellsOfWrongFalsely : Prop := fnCellsOfRow.holds Try.pinned (OpenSpec.ofChange fnCellsOfWrong)

/-- 'laws.FnCoversView': WHATEVER THE INPUT: true; the input reads as it did. -/
def fnCoversViewSpec : ChangeSpec := { name := "fnCoversView", fn := fun _ => fun
  | [d] => { results := [.lit (.bool true)], args := [d] }
  | _ => none }
def fnCoversViewRow : OpenClaim := { program := "ytgepbcakcjdmoaa", sum := "2a62a8b41707d961a745a1d0471433dc171674445c71956b205349f49ddd66b7", func := "loop.example/strideviews/laws.FnCoversView", spec := "fnCoversView", unfollowed := true, recurses := true, apart := false }
def FnCoversViewSaid : Prop := fnCoversViewRow.holds Try.pinned (OpenSpec.ofChange fnCoversViewSpec)

/-- ITS FALSE NEIGHBOUR: 'it returns false'. Refute it at one input. -/
def fnCoversViewWrong : ChangeSpec := { name := "fnCoversView", fn := fun _ => fun
  | [d] => { results := [.lit (.bool false)], args := [d] }
  | _ => none }
def FnCoversViewWrongFalsely : Prop := fnCoversViewRow.holds Try.pinned (OpenSpec.ofChange fnCoversViewWrong)

/-- 'laws.FnSameView': WHATEVER THE INPUT: true; the input reads as it did. -/
def fnSameViewSpec : ChangeSpec := { name := "fnSameView", fn := fun _ => fun
  | [d] => { results := [.lit (.bool true)], args := [d] }
  | _ => none }
def fnSameViewRow : OpenClaim := { program := "ytgepbcakcjdmoaa", sum := "2a62a8b41707d961a745a1d0471433dc171674445c71956b205349f49ddd66b7", func := "loop.example/strideviews/laws.FnSameView", spec := "fnSameView", unfollowed := true, recurses := true, apart := false }
def FnSameViewSaid : Prop := fnSameViewRow.holds Try.pinned (OpenSpec.ofChange fnSameViewSpec)

/-- ITS FALSE NEIGHBOUR: 'it returns false'. Refute it at one input. -/
def fnSameViewWrong : ChangeSpec := { name := "fnSameView", fn := fun _ => fun
  | [d] => { results := [.lit (.bool false)], args := [d] }
  | _ => none }
def FnSameViewWrongFalsely : Prop := fnSameViewRow.holds Try.pinned (OpenSpec.ofChange fnSameViewWrong)

/-- 'laws.FnWitnessOf': WHATEVER THE INPUT: true; the input reads as it did. -/
def fnWitnessOfSpec : ChangeSpec := { name := "fnWitnessOf", fn := fun _ => fun
  | [d] => { results := [.lit (.bool true)], args := [d] }
  | _ => none }
def fnWitnessOfRow : OpenClaim := { program := "ytgepbcakcjdmoaa", sum := "2a62a8b41707d961a745a1d0471433dc171674445c71956b205349f49ddd66b7", func := "loop.example/strideviews/laws.FnWitnessOf", spec := "fnWitnessOf", unfollowed := true, recurses := true, apart := false }
def FnWitnessOfSaid : Prop := fnWitnessOfRow.holds Try.pinned (OpenSpec.ofChange fnWitnessOfSpec)

/-- ITS FALSE NEIGHBOUR: 'it returns false'. Refute it at one input. -/
def fnWitnessOfWrong : ChangeSpec := { name := "fnWitnessOf", fn := fun _ => fun
  | [d] => { results := [.lit (.bool false)], args := [d] }
  | _ => none }
def FnWitnessOfWrongFalsely : Prop := fnWitnessOfRow.holds Try.pinned (OpenSpec.ofChange fnWitnessOfWrong)

/-- 'laws.FnRepeatsOf': WHATEVER THE INPUT: true; the input reads as it did. -/
def fnRepeatsOfSpec : ChangeSpec := { name := "fnRepeatsOf", fn := fun _ => fun
  | [d] => { results := [.lit (.bool true)], args := [d] }
  | _ => none }
def fnRepeatsOfRow : OpenClaim := { program := "ytgepbcakcjdmoaa", sum := "2a62a8b41707d961a745a1d0471433dc171674445c71956b205349f49ddd66b7", func := "loop.example/strideviews/laws.FnRepeatsOf", spec := "fnRepeatsOf", unfollowed := true, recurses := true, apart := false }
def FnRepeatsOfSaid : Prop := fnRepeatsOfRow.holds Try.pinned (OpenSpec.ofChange fnRepeatsOfSpec)

/-- ITS FALSE NEIGHBOUR: 'it returns false'. Refute it at one input. -/
def fnRepeatsOfWrong : ChangeSpec := { name := "fnRepeatsOf", fn := fun _ => fun
  | [d] => { results := [.lit (.bool false)], args := [d] }
  | _ => none }
def FnRepeatsOfWrongFalsely : Prop := fnRepeatsOfRow.holds Try.pinned (OpenSpec.ofChange fnRepeatsOfWrong)

/-- 'laws.FnDoOverlap': WHATEVER THE INPUT: true; the input reads as it did. -/
def fnDoOverlapSpec : ChangeSpec := { name := "fnDoOverlap", fn := fun _ => fun
  | [d] => { results := [.lit (.bool true)], args := [d] }
  | _ => none }
def fnDoOverlapRow : OpenClaim := { program := "ytgepbcakcjdmoaa", sum := "2a62a8b41707d961a745a1d0471433dc171674445c71956b205349f49ddd66b7", func := "loop.example/strideviews/laws.FnDoOverlap", spec := "fnDoOverlap", unfollowed := true, recurses := true, apart := false }
def FnDoOverlapSaid : Prop := fnDoOverlapRow.holds Try.pinned (OpenSpec.ofChange fnDoOverlapSpec)

/-- ITS FALSE NEIGHBOUR: 'it returns false'. Refute it at one input. -/
def fnDoOverlapWrong : ChangeSpec := { name := "fnDoOverlap", fn := fun _ => fun
  | [d] => { results := [.lit (.bool false)], args := [d] }
  | _ => none }
def FnDoOverlapWrongFalsely : Prop := fnDoOverlapRow.holds Try.pinned (OpenSpec.ofChange fnDoOverlapWrong)

/-- 'laws.FnGapsOf': WHATEVER THE INPUT: true; the input reads as it did. -/
def fnGapsOfSpec : ChangeSpec := { name := "fnGapsOf", fn := fun _ => fun
  | [d] => { results := [.lit (.bool true)], args := [d] }
  | _ => none }
def fnGapsOfRow : OpenClaim := { program := "ytgepbcakcjdmoaa", sum := "2a62a8b41707d961a745a1d0471433dc171674445c71956b205349f49ddd66b7", func := "loop.example/strideviews/laws.FnGapsOf", spec := "fnGapsOf", unfollowed := true, recurses := true, apart := false }
def FnGapsOfSaid : Prop := fnGapsOfRow.holds Try.pinned (OpenSpec.ofChange fnGapsOfSpec)

/-- ITS FALSE NEIGHBOUR: 'it returns false'. Refute it at one input. -/
def fnGapsOfWrong : ChangeSpec := { name := "fnGapsOf", fn := fun _ => fun
  | [d] => { results := [.lit (.bool false)], args := [d] }
  | _ => none }
def FnGapsOfWrongFalsely : Prop := fnGapsOfRow.holds Try.pinned (OpenSpec.ofChange fnGapsOfWrong)

/-- 'laws.FnMayOverlap': WHATEVER THE INPUT: true; the input reads as it did. -/
def fnMayOverlapSpec : ChangeSpec := { name := "fnMayOverlap", fn := fun _ => fun
  | [d] => { results := [.lit (.bool true)], args := [d] }
  | _ => none }
def fnMayOverlapRow : OpenClaim := { program := "ytgepbcakcjdmoaa", sum := "2a62a8b41707d961a745a1d0471433dc171674445c71956b205349f49ddd66b7", func := "loop.example/strideviews/laws.FnMayOverlap", spec := "fnMayOverlap", unfollowed := true, recurses := true, apart := false }
def FnMayOverlapSaid : Prop := fnMayOverlapRow.holds Try.pinned (OpenSpec.ofChange fnMayOverlapSpec)

/-- ITS FALSE NEIGHBOUR: 'it returns false'. Refute it at one input. -/
def fnMayOverlapWrong : ChangeSpec := { name := "fnMayOverlap", fn := fun _ => fun
  | [d] => { results := [.lit (.bool false)], args := [d] }
  | _ => none }
def FnMayOverlapWrongFalsely : Prop := fnMayOverlapRow.holds Try.pinned (OpenSpec.ofChange fnMayOverlapWrong)

/-- 'laws.FnOverlapOf': WHATEVER THE INPUT: true; the input reads as it did. -/
def fnOverlapOfSpec : ChangeSpec := { name := "fnOverlapOf", fn := fun _ => fun
  | [d] => { results := [.lit (.bool true)], args := [d] }
  | _ => none }
def fnOverlapOfRow : OpenClaim := { program := "ytgepbcakcjdmoaa", sum := "2a62a8b41707d961a745a1d0471433dc171674445c71956b205349f49ddd66b7", func := "loop.example/strideviews/laws.FnOverlapOf", spec := "fnOverlapOf", unfollowed := true, recurses := true, apart := false }
def FnOverlapOfSaid : Prop := fnOverlapOfRow.holds Try.pinned (OpenSpec.ofChange fnOverlapOfSpec)

/-- ITS FALSE NEIGHBOUR: 'it returns false'. Refute it at one input. -/
def fnOverlapOfWrong : ChangeSpec := { name := "fnOverlapOf", fn := fun _ => fun
  | [d] => { results := [.lit (.bool false)], args := [d] }
  | _ => none }
def FnOverlapOfWrongFalsely : Prop := fnOverlapOfRow.holds Try.pinned (OpenSpec.ofChange fnOverlapOfWrong)

/-- 'laws.FnWayOf': WHATEVER THE INPUT: true; the input reads as it did. -/
def fnWayOfSpec : ChangeSpec := { name := "fnWayOf", fn := fun _ => fun
  | [d] => { results := [.lit (.bool true)], args := [d] }
  | _ => none }
def fnWayOfRow : OpenClaim := { program := "ytgepbcakcjdmoaa", sum := "2a62a8b41707d961a745a1d0471433dc171674445c71956b205349f49ddd66b7", func := "loop.example/strideviews/laws.FnWayOf", spec := "fnWayOf", unfollowed := true, recurses := true, apart := false }
def FnWayOfSaid : Prop := fnWayOfRow.holds Try.pinned (OpenSpec.ofChange fnWayOfSpec)

/-- ITS FALSE NEIGHBOUR: 'it returns false'. Refute it at one input. -/
def fnWayOfWrong : ChangeSpec := { name := "fnWayOf", fn := fun _ => fun
  | [d] => { results := [.lit (.bool false)], args := [d] }
  | _ => none }
def FnWayOfWrongFalsely : Prop := fnWayOfRow.holds Try.pinned (OpenSpec.ofChange fnWayOfWrong)

/-- 'laws.FnHoldersOf': WHATEVER THE INPUT: true; the input reads as it did. -/
def fnHoldersOfSpec : ChangeSpec := { name := "fnHoldersOf", fn := fun _ => fun
  | [d] => { results := [.lit (.bool true)], args := [d] }
  | _ => none }
def fnHoldersOfRow : OpenClaim := { program := "ytgepbcakcjdmoaa", sum := "2a62a8b41707d961a745a1d0471433dc171674445c71956b205349f49ddd66b7", func := "loop.example/strideviews/laws.FnHoldersOf", spec := "fnHoldersOf", unfollowed := true, recurses := true, apart := false }
def FnHoldersOfSaid : Prop := fnHoldersOfRow.holds Try.pinned (OpenSpec.ofChange fnHoldersOfSpec)

/-- ITS FALSE NEIGHBOUR: 'it returns false'. Refute it at one input. -/
def fnHoldersOfWrong : ChangeSpec := { name := "fnHoldersOf", fn := fun _ => fun
  | [d] => { results := [.lit (.bool false)], args := [d] }
  | _ => none }
def FnHoldersOfWrongFalsely : Prop := fnHoldersOfRow.holds Try.pinned (OpenSpec.ofChange fnHoldersOfWrong)

/- THE SECOND FORM. 'bulk': how many values and letters a reading holds, each counted each time it is reached (what is shared counts as often as it is met; a slice's spare places count too). A statement '..UptoSaid' is the law's where the arguments, and the package variables that the reading takes, are together of bulk at most 1048576: NARROWER than '..Said'. Prove '..Said' where nothing that the law and all that it calls make is longer than what came in: it says more and counts as full. Else prove '..UptoSaid'. A law counts once. -/
mutual
def uptoBulk {H : Type} : DataW H → Nat
  | .lit (.string bytes) => bytes.length + 1
  | .lit _ => 1
  | .nil => 1
  | .ptr d => uptoBulk d + 1
  | .slice elems spare => uptoBulkAll elems + uptoBulkAll spare + 1
  | .agg parts => uptoBulkAll parts + 1
  | .iface _ d => uptoBulk d + 1
  | .map entries => uptoBulkEntries entries + 1
  | .held _ => 1
def uptoBulkAll {H : Type} : List (DataW H) → Nat
  | [] => 0
  | d :: r => uptoBulk d + uptoBulkAll r
def uptoBulkEntries {H : Type} : List (Lit × DataW H) → Nat
  | [] => 0
  | x :: r => uptoBulkEntry x + uptoBulkEntries r
def uptoBulkEntry {H : Type} : Lit × DataW H → Nat
  | (.string bytes, d) => bytes.length + uptoBulk d + 1
  | (_, d) => uptoBulk d + 1
 end
def uptoSmall : (H : Type) → List (DataW H) → Bool := fun _ ds => decide (uptoBulkAll ds ≤ 1048576)
def OpenSpec.upto (s : _root_.Go.ChangeSpec) : _root_.Go.OpenSpec := { _root_.Go.OpenSpec.ofChange s with cond := some uptoSmall }

/-- 'laws.FnIsOneToOne', WHERE WHAT IT READS IS OF BULK AT MOST 1048576: true; the input reads as it did. -/
def fnIsOneToOneUptoRow : OpenClaim := { program := "ytgepbcakcjdmoaa", sum := "2a62a8b41707d961a745a1d0471433dc171674445c71956b205349f49ddd66b7", func := "loop.example/strideviews/laws.FnIsOneToOne", spec := "fnIsOneToOne", unfollowed := true, recurses := true, apart := false, narrowed := true }
def FnIsOneToOneUptoSaid : Prop := fnIsOneToOneUptoRow.holds Try.pinned (OpenSpec.upto fnIsOneToOneSpec)

/-- 'laws.FnCellsOf', WHERE WHAT IT READS IS OF BULK AT MOST 1048576: true; the input reads as it did. -/
def fnCellsOfUptoRow : OpenClaim := { program := "ytgepbcakcjdmoaa", sum := "2a62a8b41707d961a745a1d0471433dc171674445c71956b205349f49ddd66b7", func := "loop.example/strideviews/laws.FnCellsOf", spec := "fnCellsOf", unfollowed := true, recurses := true, apart := false, narrowed := true }
def FnCellsOfUptoSaid : Prop := fnCellsOfUptoRow.holds Try.pinned (OpenSpec.upto fnCellsOfSpec)

/-- 'laws.FnCoversView', WHERE WHAT IT READS IS OF BULK AT MOST 1048576: true; the input reads as it did. -/
def fnCoversViewUptoRow : OpenClaim := { program := "ytgepbcakcjdmoaa", sum := "2a62a8b41707d961a745a1d0471433dc171674445c71956b205349f49ddd66b7", func := "loop.example/strideviews/laws.FnCoversView", spec := "fnCoversView", unfollowed := true, recurses := true, apart := false, narrowed := true }
def FnCoversViewUptoSaid : Prop := fnCoversViewUptoRow.holds Try.pinned (OpenSpec.upto fnCoversViewSpec)

/-- 'laws.FnSameView', WHERE WHAT IT READS IS OF BULK AT MOST 1048576: true; the input reads as it did. -/
def fnSameViewUptoRow : OpenClaim := { program := "ytgepbcakcjdmoaa", sum := "2a62a8b41707d961a745a1d0471433dc171674445c71956b205349f49ddd66b7", func := "loop.example/strideviews/laws.FnSameView", spec := "fnSameView", unfollowed := true, recurses := true, apart := false, narrowed := true }
def FnSameViewUptoSaid : Prop := fnSameViewUptoRow.holds Try.pinned (OpenSpec.upto fnSameViewSpec)

/-- 'laws.FnWitnessOf', WHERE WHAT IT READS IS OF BULK AT MOST 1048576: true; the input reads as it did. -/
def fnWitnessOfUptoRow : OpenClaim := { program := "ytgepbcakcjdmoaa", sum := "2a62a8b41707d961a745a1d0471433dc171674445c71956b205349f49ddd66b7", func := "loop.example/strideviews/laws.FnWitnessOf", spec := "fnWitnessOf", unfollowed := true, recurses := true, apart := false, narrowed := true }
def FnWitnessOfUptoSaid : Prop := fnWitnessOfUptoRow.holds Try.pinned (OpenSpec.upto fnWitnessOfSpec)

/-- 'laws.FnRepeatsOf', WHERE WHAT IT READS IS OF BULK AT MOST 1048576: true; the input reads as it did. -/
def fnRepeatsOfUptoRow : OpenClaim := { program := "ytgepbcakcjdmoaa", sum := "2a62a8b41707d961a745a1d0471433dc171674445c71956b205349f49ddd66b7", func := "loop.example/strideviews/laws.FnRepeatsOf", spec := "fnRepeatsOf", unfollowed := true, recurses := true, apart := false, narrowed := true }
def FnRepeatsOfUptoSaid : Prop := fnRepeatsOfUptoRow.holds Try.pinned (OpenSpec.upto fnRepeatsOfSpec)

/-- 'laws.FnDoOverlap', WHERE WHAT IT READS IS OF BULK AT MOST 1048576: true; the input reads as it did. -/
def fnDoOverlapUptoRow : OpenClaim := { program := "ytgepbcakcjdmoaa", sum := "2a62a8b41707d961a745a1d0471433dc171674445c71956b205349f49ddd66b7", func := "loop.example/strideviews/laws.FnDoOverlap", spec := "fnDoOverlap", unfollowed := true, recurses := true, apart := false, narrowed := true }
def FnDoOverlapUptoSaid : Prop := fnDoOverlapUptoRow.holds Try.pinned (OpenSpec.upto fnDoOverlapSpec)

/-- 'laws.FnGapsOf', WHERE WHAT IT READS IS OF BULK AT MOST 1048576: true; the input reads as it did. -/
def fnGapsOfUptoRow : OpenClaim := { program := "ytgepbcakcjdmoaa", sum := "2a62a8b41707d961a745a1d0471433dc171674445c71956b205349f49ddd66b7", func := "loop.example/strideviews/laws.FnGapsOf", spec := "fnGapsOf", unfollowed := true, recurses := true, apart := false, narrowed := true }
def FnGapsOfUptoSaid : Prop := fnGapsOfUptoRow.holds Try.pinned (OpenSpec.upto fnGapsOfSpec)

/-- 'laws.FnMayOverlap', WHERE WHAT IT READS IS OF BULK AT MOST 1048576: true; the input reads as it did. -/
def fnMayOverlapUptoRow : OpenClaim := { program := "ytgepbcakcjdmoaa", sum := "2a62a8b41707d961a745a1d0471433dc171674445c71956b205349f49ddd66b7", func := "loop.example/strideviews/laws.FnMayOverlap", spec := "fnMayOverlap", unfollowed := true, recurses := true, apart := false, narrowed := true }
def FnMayOverlapUptoSaid : Prop := fnMayOverlapUptoRow.holds Try.pinned (OpenSpec.upto fnMayOverlapSpec)

/-- 'laws.FnOverlapOf', WHERE WHAT IT READS IS OF BULK AT MOST 1048576: true; the input reads as it did. -/
def fnOverlapOfUptoRow : OpenClaim := { program := "ytgepbcakcjdmoaa", sum := "2a62a8b41707d961a745a1d0471433dc171674445c71956b205349f49ddd66b7", func := "loop.example/strideviews/laws.FnOverlapOf", spec := "fnOverlapOf", unfollowed := true, recurses := true, apart := false, narrowed := true }
def FnOverlapOfUptoSaid : Prop := fnOverlapOfUptoRow.holds Try.pinned (OpenSpec.upto fnOverlapOfSpec)

/-- 'laws.FnWayOf', WHERE WHAT IT READS IS OF BULK AT MOST 1048576: true; the input reads as it did. -/
def fnWayOfUptoRow : OpenClaim := { program := "ytgepbcakcjdmoaa", sum := "2a62a8b41707d961a745a1d0471433dc171674445c71956b205349f49ddd66b7", func := "loop.example/strideviews/laws.FnWayOf", spec := "fnWayOf", unfollowed := true, recurses := true, apart := false, narrowed := true }
def FnWayOfUptoSaid : Prop := fnWayOfUptoRow.holds Try.pinned (OpenSpec.upto fnWayOfSpec)

/-- 'laws.FnHoldersOf', WHERE WHAT IT READS IS OF BULK AT MOST 1048576: true; the input reads as it did. -/
def fnHoldersOfUptoRow : OpenClaim := { program := "ytgepbcakcjdmoaa", sum := "2a62a8b41707d961a745a1d0471433dc171674445c71956b205349f49ddd66b7", func := "loop.example/strideviews/laws.FnHoldersOf", spec := "fnHoldersOf", unfollowed := true, recurses := true, apart := false, narrowed := true }
def FnHoldersOfUptoSaid : Prop := fnHoldersOfUptoRow.holds Try.pinned (OpenSpec.upto fnHoldersOfSpec)

end Rows
end Go.Proofs.Ytgepbcakcjdmoaa
