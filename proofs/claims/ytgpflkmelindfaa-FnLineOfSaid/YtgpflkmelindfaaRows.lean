/-
  No cell of these rows narrows 'for every input' (looked for: loops, veiled, ifaces, maps, wideKeys, modest, calm, conditions, laid).
  DERIVED. THE GIVEN ROWS OF THIS SEAT. 6 by the template 'for every input the law returns true; each argument reads behind the call as it read before'; 0 by the template 'total and deterministic' (their statements: YtgpflkmelindfaaTotals.lean).
  GIVEN WITH THE SEED: the statements are not yours to turn. If you find one false, say at which input.
  Laid BY PROGRAM, IN A SANDBOX (cutbox-rows.mjs): the forced cells as the released guide's own fill.sh prints them over the translation c8d903a71a1cd407… (all of the seat's roots in one cut). By AI agents, Wed Nov 11 2026. No macro, syntax, notation, axiom, sorry.
-/
import Derived.Test.YtgpflkmelindfaaChecked
import GoSem.Claim
import GoSem.ClaimJoined
import GoSem.ClaimMapViews
import Derived.JoinedTies
import Derived.KernelRfl
namespace Go.Proofs.Ytgpflkmelindfaa
/- THE CELL 'sum', in the pinned program and in every row, IS THE sha256 OF THE DUMP (.gsa) THAT YtgpflkmelindfaaProg.lean LOADS. Nothing in Lean hashes anything: it is a label: what it is worth is what the hold of that sum in a sandbox is worth. -/
noncomputable def Try.pinned : Pinned := { name := "ytgpflkmelindfaa", sum := "c8d903a71a1cd407717ede1bb160e7b9ac21aec12cd8d630dc06f7857dc4d427", checked := Try.checked }
namespace Rows
def none {H : Type} : Left H := { results := [], args := [] }

/-- 'laws.FnFlipDim': WHATEVER THE INPUT: true; the input reads as it did. -/
def fnFlipDimSpec : ChangeSpec := { name := "fnFlipDim", fn := fun _ => fun
  | [d] => { results := [.lit (.bool true)], args := [d] }
  | _ => none }
def fnFlipDimRow : OpenClaim := { program := "ytgpflkmelindfaa", sum := "c8d903a71a1cd407717ede1bb160e7b9ac21aec12cd8d630dc06f7857dc4d427", func := "loop.example/strideviews/laws.FnFlipDim", spec := "fnFlipDim", unfollowed := true, recurses := true, apart := false }
def FnFlipDimSaid : Prop := fnFlipDimRow.holds Try.pinned (OpenSpec.ofChange fnFlipDimSpec)

/-- ITS FALSE NEIGHBOUR: 'it returns false'. Refute it at one input. -/
def fnFlipDimWrong : ChangeSpec := { name := "fnFlipDim", fn := fun _ => fun
  | [d] => { results := [.lit (.bool false)], args := [d] }
  | _ => none }
def FnFlipDimWrongFalsely : Prop := fnFlipDimRow.holds Try.pinned (OpenSpec.ofChange fnFlipDimWrong)

/-- 'laws.FnFillView': WHATEVER THE INPUT: true; the input reads as it did. -/
def fnFillViewSpec : ChangeSpec := { name := "fnFillView", fn := fun _ => fun
  | [d] => { results := [.lit (.bool true)], args := [d] }
  | _ => none }
def fnFillViewRow : OpenClaim := { program := "ytgpflkmelindfaa", sum := "c8d903a71a1cd407717ede1bb160e7b9ac21aec12cd8d630dc06f7857dc4d427", func := "loop.example/strideviews/laws.FnFillView", spec := "fnFillView", unfollowed := true, recurses := true, apart := false }
def FnFillViewSaid : Prop := fnFillViewRow.holds Try.pinned (OpenSpec.ofChange fnFillViewSpec)

/-- ITS FALSE NEIGHBOUR: 'it returns false'. Refute it at one input. -/
def fnFillViewWrong : ChangeSpec := { name := "fnFillView", fn := fun _ => fun
  | [d] => { results := [.lit (.bool false)], args := [d] }
  | _ => none }
def FnFillViewWrongFalsely : Prop := fnFillViewRow.holds Try.pinned (OpenSpec.ofChange fnFillViewWrong)

/-- 'laws.FnWayOfLines': WHATEVER THE INPUT: true; the input reads as it did. -/
def fnWayOfLinesSpec : ChangeSpec := { name := "fnWayOfLines", fn := fun _ => fun
  | [d] => { results := [.lit (.bool true)], args := [d] }
  | _ => none }
def fnWayOfLinesRow : OpenClaim := { program := "ytgpflkmelindfaa", sum := "c8d903a71a1cd407717ede1bb160e7b9ac21aec12cd8d630dc06f7857dc4d427", func := "loop.example/strideviews/laws.FnWayOfLines", spec := "fnWayOfLines", unfollowed := true, recurses := true, apart := false }
def FnWayOfLinesSaid : Prop := fnWayOfLinesRow.holds Try.pinned (OpenSpec.ofChange fnWayOfLinesSpec)

/-- ITS FALSE NEIGHBOUR: 'it returns false'. Refute it at one input. -/
def fnWayOfLinesWrong : ChangeSpec := { name := "fnWayOfLines", fn := fun _ => fun
  | [d] => { results := [.lit (.bool false)], args := [d] }
  | _ => none }
def FnWayOfLinesWrongFalsely : Prop := fnWayOfLinesRow.holds Try.pinned (OpenSpec.ofChange fnWayOfLinesWrong)

/-- 'laws.FnTilesOf': WHATEVER THE INPUT: true; the input reads as it did. -/
def fnTilesOfSpec : ChangeSpec := { name := "fnTilesOf", fn := fun _ => fun
  | [d] => { results := [.lit (.bool true)], args := [d] }
  | _ => none }
def fnTilesOfRow : OpenClaim := { program := "ytgpflkmelindfaa", sum := "c8d903a71a1cd407717ede1bb160e7b9ac21aec12cd8d630dc06f7857dc4d427", func := "loop.example/strideviews/laws.FnTilesOf", spec := "fnTilesOf", unfollowed := true, recurses := true, apart := false }
def FnTilesOfSaid : Prop := fnTilesOfRow.holds Try.pinned (OpenSpec.ofChange fnTilesOfSpec)

/-- ITS FALSE NEIGHBOUR: 'it returns false'. Refute it at one input. -/
def fnTilesOfWrong : ChangeSpec := { name := "fnTilesOf", fn := fun _ => fun
  | [d] => { results := [.lit (.bool false)], args := [d] }
  | _ => none }
def FnTilesOfWrongFalsely : Prop := fnTilesOfRow.holds Try.pinned (OpenSpec.ofChange fnTilesOfWrong)

/-- 'laws.FnLineOf': WHATEVER THE INPUT: true; the input reads as it did. -/
def fnLineOfSpec : ChangeSpec := { name := "fnLineOf", fn := fun _ => fun
  | [d] => { results := [.lit (.bool true)], args := [d] }
  | _ => none }
def fnLineOfRow : OpenClaim := { program := "ytgpflkmelindfaa", sum := "c8d903a71a1cd407717ede1bb160e7b9ac21aec12cd8d630dc06f7857dc4d427", func := "loop.example/strideviews/laws.FnLineOf", spec := "fnLineOf", unfollowed := true, recurses := true, apart := false }
def FnLineOfSaid : Prop := fnLineOfRow.holds Try.pinned (OpenSpec.ofChange fnLineOfSpec)

/-- ITS FALSE NEIGHBOUR: 'it returns false'. Refute it at one input. -/
def fnLineOfWrong : ChangeSpec := { name := "fnLineOf", fn := fun _ => fun
  | [d] => { results := [.lit (.bool false)], args := [d] }
  | _ => none }
def FnLineOfWrongFalsely : Prop := fnLineOfRow.holds Try.pinned (OpenSpec.ofChange fnLineOfWrong)

/-- 'laws.FnSliceDim': WHATEVER THE INPUT: true; the input reads as it did. -/
def fnSliceDimSpec : ChangeSpec := { name := "fnSliceDim", fn := fun _ => fun
  | [d] => { results := [.lit (.bool true)], args := [d] }
  | _ => none }
def fnSliceDimRow : OpenClaim := { program := "ytgpflkmelindfaa", sum := "c8d903a71a1cd407717ede1bb160e7b9ac21aec12cd8d630dc06f7857dc4d427", func := "loop.example/strideviews/laws.FnSliceDim", spec := "fnSliceDim", unfollowed := true, recurses := true, apart := false }
def FnSliceDimSaid : Prop := fnSliceDimRow.holds Try.pinned (OpenSpec.ofChange fnSliceDimSpec)

/-- ITS FALSE NEIGHBOUR: 'it returns false'. Refute it at one input. -/
def fnSliceDimWrong : ChangeSpec := { name := "fnSliceDim", fn := fun _ => fun
  | [d] => { results := [.lit (.bool false)], args := [d] }
  | _ => none }
def FnSliceDimWrongFalsely : Prop := fnSliceDimRow.holds Try.pinned (OpenSpec.ofChange fnSliceDimWrong)

/- THE SECOND FORM. 'bulk': how many values and letters a reading holds, each counted each time it is reached (what is shared counts as often as it is met; a slice's spare places count too). A statement '..UptoSaid' is the law's where the arguments, and the package variables that the reading takes, are together of bulk at most 1048576: NARROWER than '..Said'. Prove '..Said' where nothing that the law and all that it calls make is longer than what came in: it says more and counts as full. Else prove '..UptoSaid'. A law counts once. -/
mutual
def uptoBulk {H : Type} : DataW H → Nat
  | .lit (.string bytes) => bytes.length + 1
  | .lit _ => 1
  | .nil => 1
  | .ptr d => uptoBulk d + 1
  | .slice elems spare => uptoBulkAll elems + uptoBulkAll spare + 1
  | .agg parts => uptoBulkAll parts + 1
  | .iface _ d => uptoBulk d + 1
  | .map entries => uptoBulkEntries entries + 1
  | .held _ => 1
def uptoBulkAll {H : Type} : List (DataW H) → Nat
  | [] => 0
  | d :: r => uptoBulk d + uptoBulkAll r
def uptoBulkEntries {H : Type} : List (Lit × DataW H) → Nat
  | [] => 0
  | x :: r => uptoBulkEntry x + uptoBulkEntries r
def uptoBulkEntry {H : Type} : Lit × DataW H → Nat
  | (.string bytes, d) => bytes.length + uptoBulk d + 1
  | (_, d) => uptoBulk d + 1
 end
def uptoSmall : (H : Type) → List (DataW H) → Bool := fun _ ds => decide (uptoBulkAll ds ≤ 1048576)
def OpenSpec.upto (s : _root_.Go.ChangeSpec) : _root_.Go.OpenSpec := { _root_.Go.OpenSpec.ofChange s with cond := some uptoSmall }

/-- 'laws.FnFlipDim', WHERE WHAT IT READS IS OF BULK AT MOST 1048576: true; the input reads as it did. -/
def fnFlipDimUptoRow : OpenClaim := { program := "ytgpflkmelindfaa", sum := "c8d903a71a1cd407717ede1bb160e7b9ac21aec12cd8d630dc06f7857dc4d427", func := "loop.example/strideviews/laws.FnFlipDim", spec := "fnFlipDim", unfollowed := true, recurses := true, apart := false, narrowed := true }
def FnFlipDimUptoSaid : Prop := fnFlipDimUptoRow.holds Try.pinned (OpenSpec.upto fnFlipDimSpec)

/-- 'laws.FnFillView', WHERE WHAT IT READS IS OF BULK AT MOST 1048576: true; the input reads as it did. -/
def fnFillViewUptoRow : OpenClaim := { program := "ytgpflkmelindfaa", sum := "c8d903a71a1cd407717ede1bb160e7b9ac21aec12cd8d630dc06f7857dc4d427", func := "loop.example/strideviews/laws.FnFillView", spec := "fnFillView", unfollowed := true, recurses := true, apart := false, narrowed := true }
def FnFillViewUptoSaid : Prop := fnFillViewUptoRow.holds Try.pinned (OpenSpec.upto fnFillViewSpec)

/-- 'laws.FnWayOfLines', WHERE WHAT IT READS IS OF BULK AT MOST 1048576: true; the input reads as it did. -/
def fnWayOfLinesUptoRow : OpenClaim := { program := "ytgpflkmelindfaa", sum := "c8d903a71a1cd407717ede1bb160e7b9ac21aec12cd8d630dc06f7857dc4d427", func := "loop.example/strideviews/laws.FnWayOfLines", spec := "fnWayOfLines", unfollowed := true, recurses := true, apart := false, narrowed := true }
def FnWayOfLinesUptoSaid : Prop := fnWayOfLinesUptoRow.holds Try.pinned (OpenSpec.upto fnWayOfLinesSpec)

/-- 'laws.FnTilesOf', WHERE WHAT IT READS IS OF BULK AT MOST 1048576: true; the input reads as it did. -/
def fnTilesOfUptoRow : OpenClaim := { program := "ytgpflkmelindfaa", sum := "c8d903a71a1cd407717ede1bb160e7b9ac21aec12cd8d630dc06f7857dc4d427", func := "loop.example/strideviews/laws.FnTilesOf", spec := "fnTilesOf", unfollowed := true, recurses := true, apart := false, narrowed := true }
def FnTilesOfUptoSaid : Prop := fnTilesOfUptoRow.holds Try.pinned (OpenSpec.upto fnTilesOfSpec)

/-- 'laws.FnLineOf', WHERE WHAT IT READS IS OF BULK AT MOST 1048576: true; the input reads as it did. -/
def fnLineOfUptoRow : OpenClaim := { program := "ytgpflkmelindfaa", sum := "c8d903a71a1cd407717ede1bb160e7b9ac21aec12cd8d630dc06f7857dc4d427", func := "loop.example/strideviews/laws.FnLineOf", spec := "fnLineOf", unfollowed := true, recurses := true, apart := false, narrowed := true }
def FnLineOfUptoSaid : Prop := fnLineOfUptoRow.holds Try.pinned (OpenSpec.upto fnLineOfSpec)

/-- 'laws.FnSliceDim', WHERE WHAT IT READS IS OF BULK AT MOST 1048576: true; the input reads as it did. -/
def fnSliceDimUptoRow : OpenClaim := { program := "ytgpflkmelindfaa", sum := "c8d903a71a1cd407717ede1bb160e7b9ac21aec12cd8d630dc06f7857dc4d427", func := "loop.example/strideviews/laws.FnSliceDim", spec := "fnSliceDim", unfollowed := true, recurses := true, apart := false, narrowed := true }
def FnSliceDimUptoSaid : Prop := fnSliceDimUptoRow.holds Try.pinned (OpenSpec.upto fnSliceDimSpec)

end Rows
end Go.Proofs.Ytgpflkmelindfaa
