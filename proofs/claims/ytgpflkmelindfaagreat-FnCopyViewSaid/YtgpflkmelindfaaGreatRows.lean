/-
  No cell of these rows narrows 'for every input' (looked for: loops, veiled, ifaces, maps, wideKeys, modest, calm, conditions, laid).
  DERIVED. THE GIVEN ROWS OF THIS SEAT. 6 by the template 'for every input the law returns true; each argument reads behind the call as it read before'; 0 by the template 'total and deterministic' (their statements: YtgpflkmelindfaaGreatTotals.lean).
  GIVEN WITH THE SEED: the statements are not yours to turn. If you find one false, say at which input.
  Laid BY PROGRAM, IN A SANDBOX (cutbox-rows.mjs): the forced cells as the released guide's own fill.sh prints them over the translation ecf177939d36a18c… (all of the seat's roots in one cut). By AI agents, Wed Nov 11 2026. No macro, syntax, notation, axiom, sorry.
-/
import Derived.Test.YtgpflkmelindfaaGreatChecked
import GoSem.Claim
import GoSem.ClaimJoined
import GoSem.ClaimMapViews
import Derived.JoinedTies
import Derived.KernelRfl
namespace Go.Proofs.YtgpflkmelindfaaGreat
/- THE CELL 'sum', in the pinned program and in every row, IS THE sha256 OF THE DUMP (.gsa) THAT YtgpflkmelindfaaGreatProg.lean LOADS. Nothing in Lean hashes anything: it is a label: what it is worth is what the hold of that sum in a sandbox is worth. -/
noncomputable def Tryz.pinned : Pinned := { name := "ytgpflkmelindfaagreat", sum := "ecf177939d36a18cef0970ea9f8bc048554d51562147977db7c10f1cf2e7b02e", checked := Tryz.checked }
namespace Rows
def none {H : Type} : Left H := { results := [], args := [] }

/-- 'laws.FnStoreView': WHATEVER THE INPUT: true; the input reads as it did. -/
def fnStoreViewSpec : ChangeSpec := { name := "fnStoreView", fn := fun _ => fun
  | [d] => { results := [.lit (.bool true)], args := [d] }
  | _ => none }
def fnStoreViewRow : OpenClaim := { program := "ytgpflkmelindfaagreat", sum := "ecf177939d36a18cef0970ea9f8bc048554d51562147977db7c10f1cf2e7b02e", func := "loop.example/strideviews/laws.FnStoreView", spec := "fnStoreView", unfollowed := true, recurses := true, apart := false }
def FnStoreViewSaid : Prop := fnStoreViewRow.holds Tryz.pinned (OpenSpec.ofChange fnStoreViewSpec)

/-- ITS FALSE NEIGHBOUR: 'it returns false'. Refute it at one input. -/
def fnStoreViewWrong : ChangeSpec := { name := "fnStoreView", fn := fun _ => fun
  | [d] => { results := [.lit (.bool false)], args := [d] }
  | _ => none }
def FnStoreViewWrongFalsely : Prop := fnStoreViewRow.holds Tryz.pinned (OpenSpec.ofChange fnStoreViewWrong)

/-- 'laws.FnCopyView': WHATEVER THE INPUT: true; the input reads as it did. -/
def fnCopyViewSpec : ChangeSpec := { name := "fnCopyView", fn := fun _ => fun
  | [d] => { results := [.lit (.bool true)], args := [d] }
  | _ => none }
def fnCopyViewRow : OpenClaim := { program := "ytgpflkmelindfaagreat", sum := "ecf177939d36a18cef0970ea9f8bc048554d51562147977db7c10f1cf2e7b02e", func := "loop.example/strideviews/laws.FnCopyView", spec := "fnCopyView", unfollowed := true, recurses := true, apart := false }
def FnCopyViewSaid : Prop := fnCopyViewRow.holds Tryz.pinned (OpenSpec.ofChange fnCopyViewSpec)

/-- ITS FALSE NEIGHBOUR: 'it returns false'. Refute it at one input. -/
def fnCopyViewWrong : ChangeSpec := { name := "fnCopyView", fn := fun _ => fun
  | [d] => { results := [.lit (.bool false)], args := [d] }
  | _ => none }
def FnCopyViewWrongFalsely : Prop := fnCopyViewRow.holds Tryz.pinned (OpenSpec.ofChange fnCopyViewWrong)

/-- 'laws.FnCopyForwardWrong': WHATEVER THE INPUT: true; the input reads as it did. -/
def fnCopyForwardWrongSpec : ChangeSpec := { name := "fnCopyForwardWrong", fn := fun _ => fun
  | [d] => { results := [.lit (.bool true)], args := [d] }
  | _ => none }
def fnCopyForwardWrongRow : OpenClaim := { program := "ytgpflkmelindfaagreat", sum := "ecf177939d36a18cef0970ea9f8bc048554d51562147977db7c10f1cf2e7b02e", func := "loop.example/strideviews/laws.FnCopyForwardWrong", spec := "fnCopyForwardWrong", unfollowed := true, recurses := true, apart := false }
def FnCopyForwardWrongSaid : Prop := fnCopyForwardWrongRow.holds Tryz.pinned (OpenSpec.ofChange fnCopyForwardWrongSpec)

/-- ITS FALSE NEIGHBOUR: 'it returns false'. Refute it at one input. -/
def fnCopyForwardWrongWrong : ChangeSpec := { name := "fnCopyForwardWrong", fn := fun _ => fun
  | [d] => { results := [.lit (.bool false)], args := [d] }
  | _ => none }
def FnCopyForwardWrongWrongFalsely : Prop := fnCopyForwardWrongRow.holds Tryz.pinned (OpenSpec.ofChange fnCopyForwardWrongWrong)

/-- 'laws.FnSwapViews': WHATEVER THE INPUT: true; the input reads as it did. -/
def fnSwapViewsSpec : ChangeSpec := { name := "fnSwapViews", fn := fun _ => fun
  | [d] => { results := [.lit (.bool true)], args := [d] }
  | _ => none }
def fnSwapViewsRow : OpenClaim := { program := "ytgpflkmelindfaagreat", sum := "ecf177939d36a18cef0970ea9f8bc048554d51562147977db7c10f1cf2e7b02e", func := "loop.example/strideviews/laws.FnSwapViews", spec := "fnSwapViews", unfollowed := true, recurses := true, apart := false }
def FnSwapViewsSaid : Prop := fnSwapViewsRow.holds Tryz.pinned (OpenSpec.ofChange fnSwapViewsSpec)

/-- ITS FALSE NEIGHBOUR: 'it returns false'. Refute it at one input. -/
def fnSwapViewsWrong : ChangeSpec := { name := "fnSwapViews", fn := fun _ => fun
  | [d] => { results := [.lit (.bool false)], args := [d] }
  | _ => none }
def FnSwapViewsWrongFalsely : Prop := fnSwapViewsRow.holds Tryz.pinned (OpenSpec.ofChange fnSwapViewsWrong)

/-- 'laws.FnCopyForward': WHATEVER THE INPUT: true; the input reads as it did. -/
def fnCopyForwardSpec : ChangeSpec := { name := "fnCopyForward", fn := fun _ => fun
  | [d] => { results := [.lit (.bool true)], args := [d] }
  | _ => none }
def fnCopyForwardRow : OpenClaim := { program := "ytgpflkmelindfaagreat", sum := "ecf177939d36a18cef0970ea9f8bc048554d51562147977db7c10f1cf2e7b02e", func := "loop.example/strideviews/laws.FnCopyForward", spec := "fnCopyForward", unfollowed := true, recurses := true, apart := false }
def FnCopyForwardSaid : Prop := fnCopyForwardRow.holds Tryz.pinned (OpenSpec.ofChange fnCopyForwardSpec)

/-- ITS FALSE NEIGHBOUR: 'it returns false'. Refute it at one input. -/
def fnCopyForwardWrong : ChangeSpec := { name := "fnCopyForward", fn := fun _ => fun
  | [d] => { results := [.lit (.bool false)], args := [d] }
  | _ => none }
def FnCopyForwardWrongFalsely : Prop := fnCopyForwardRow.holds Tryz.pinned (OpenSpec.ofChange fnCopyForwardWrong)

/-- 'laws.FnCopyBackward': WHATEVER THE INPUT: true; the input reads as it did. -/
def fnCopyBackwardSpec : ChangeSpec := { name := "fnCopyBackward", fn := fun _ => fun
  | [d] => { results := [.lit (.bool true)], args := [d] }
  | _ => none }
def fnCopyBackwardRow : OpenClaim := { program := "ytgpflkmelindfaagreat", sum := "ecf177939d36a18cef0970ea9f8bc048554d51562147977db7c10f1cf2e7b02e", func := "loop.example/strideviews/laws.FnCopyBackward", spec := "fnCopyBackward", unfollowed := true, recurses := true, apart := false }
def FnCopyBackwardSaid : Prop := fnCopyBackwardRow.holds Tryz.pinned (OpenSpec.ofChange fnCopyBackwardSpec)

/-- ITS FALSE NEIGHBOUR: 'it returns false'. Refute it at one input. -/
def fnCopyBackwardWrong : ChangeSpec := { name := "fnCopyBackward", fn := fun _ => fun
  | [d] => { results := [.lit (.bool false)], args := [d] }
  | _ => none }
def FnCopyBackwardWrongFalsely : Prop := fnCopyBackwardRow.holds Tryz.pinned (OpenSpec.ofChange fnCopyBackwardWrong)

/- THE SECOND FORM. 'bulk': how many values and letters a reading holds, each counted each time it is reached (what is shared counts as often as it is met; a slice's spare places count too). A statement '..UptoSaid' is the law's where the arguments, and the package variables that the reading takes, are together of bulk at most 1048576: NARROWER than '..Said'. Prove '..Said' where nothing that the law and all that it calls make is longer than what came in: it says more and counts as full. Else prove '..UptoSaid'. A law counts once. -/
mutual
def uptoBulk {H : Type} : DataW H → Nat
  | .lit (.string bytes) => bytes.length + 1
  | .lit _ => 1
  | .nil => 1
  | .ptr d => uptoBulk d + 1
  | .slice elems spare => uptoBulkAll elems + uptoBulkAll spare + 1
  | .agg parts => uptoBulkAll parts + 1
  | .iface _ d => uptoBulk d + 1
  | .map entries => uptoBulkEntries entries + 1
  | .held _ => 1
def uptoBulkAll {H : Type} : List (DataW H) → Nat
  | [] => 0
  | d :: r => uptoBulk d + uptoBulkAll r
def uptoBulkEntries {H : Type} : List (Lit × DataW H) → Nat
  | [] => 0
  | x :: r => uptoBulkEntry x + uptoBulkEntries r
def uptoBulkEntry {H : Type} : Lit × DataW H → Nat
  | (.string bytes, d) => bytes.length + uptoBulk d + 1
  | (_, d) => uptoBulk d + 1
 end
def uptoSmall : (H : Type) → List (DataW H) → Bool := fun _ ds => decide (uptoBulkAll ds ≤ 1048576)
def OpenSpec.upto (s : _root_.Go.ChangeSpec) : _root_.Go.OpenSpec := { _root_.Go.OpenSpec.ofChange s with cond := some uptoSmall }

/-- 'laws.FnStoreView', WHERE WHAT IT READS IS OF BULK AT MOST 1048576: true; the input reads as it did. -/
def fnStoreViewUptoRow : OpenClaim := { program := "ytgpflkmelindfaagreat", sum := "ecf177939d36a18cef0970ea9f8bc048554d51562147977db7c10f1cf2e7b02e", func := "loop.example/strideviews/laws.FnStoreView", spec := "fnStoreView", unfollowed := true, recurses := true, apart := false, narrowed := true }
def FnStoreViewUptoSaid : Prop := fnStoreViewUptoRow.holds Tryz.pinned (OpenSpec.upto fnStoreViewSpec)

/-- 'laws.FnCopyView', WHERE WHAT IT READS IS OF BULK AT MOST 1048576: true; the input reads as it did. -/
def fnCopyViewUptoRow : OpenClaim := { program := "ytgpflkmelindfaagreat", sum := "ecf177939d36a18cef0970ea9f8bc048554d51562147977db7c10f1cf2e7b02e", func := "loop.example/strideviews/laws.FnCopyView", spec := "fnCopyView", unfollowed := true, recurses := true, apart := false, narrowed := true }
def FnCopyViewUptoSaid : Prop := fnCopyViewUptoRow.holds Tryz.pinned (OpenSpec.upto fnCopyViewSpec)

/-- 'laws.FnCopyForwardWrong', WHERE WHAT IT READS IS OF BULK AT MOST 1048576: true; the input reads as it did. -/
def fnCopyForwardWrongUptoRow : OpenClaim := { program := "ytgpflkmelindfaagreat", sum := "ecf177939d36a18cef0970ea9f8bc048554d51562147977db7c10f1cf2e7b02e", func := "loop.example/strideviews/laws.FnCopyForwardWrong", spec := "fnCopyForwardWrong", unfollowed := true, recurses := true, apart := false, narrowed := true }
def FnCopyForwardWrongUptoSaid : Prop := fnCopyForwardWrongUptoRow.holds Tryz.pinned (OpenSpec.upto fnCopyForwardWrongSpec)

/-- 'laws.FnSwapViews', WHERE WHAT IT READS IS OF BULK AT MOST 1048576: true; the input reads as it did. -/
def fnSwapViewsUptoRow : OpenClaim := { program := "ytgpflkmelindfaagreat", sum := "ecf177939d36a18cef0970ea9f8bc048554d51562147977db7c10f1cf2e7b02e", func := "loop.example/strideviews/laws.FnSwapViews", spec := "fnSwapViews", unfollowed := true, recurses := true, apart := false, narrowed := true }
def FnSwapViewsUptoSaid : Prop := fnSwapViewsUptoRow.holds Tryz.pinned (OpenSpec.upto fnSwapViewsSpec)

/-- 'laws.FnCopyForward', WHERE WHAT IT READS IS OF BULK AT MOST 1048576: true; the input reads as it did. -/
def fnCopyForwardUptoRow : OpenClaim := { program := "ytgpflkmelindfaagreat", sum := "ecf177939d36a18cef0970ea9f8bc048554d51562147977db7c10f1cf2e7b02e", func := "loop.example/strideviews/laws.FnCopyForward", spec := "fnCopyForward", unfollowed := true, recurses := true, apart := false, narrowed := true }
def FnCopyForwardUptoSaid : Prop := fnCopyForwardUptoRow.holds Tryz.pinned (OpenSpec.upto fnCopyForwardSpec)

/-- 'laws.FnCopyBackward', WHERE WHAT IT READS IS OF BULK AT MOST 1048576: true; the input reads as it did. -/
def fnCopyBackwardUptoRow : OpenClaim := { program := "ytgpflkmelindfaagreat", sum := "ecf177939d36a18cef0970ea9f8bc048554d51562147977db7c10f1cf2e7b02e", func := "loop.example/strideviews/laws.FnCopyBackward", spec := "fnCopyBackward", unfollowed := true, recurses := true, apart := false, narrowed := true }
def FnCopyBackwardUptoSaid : Prop := fnCopyBackwardUptoRow.holds Tryz.pinned (OpenSpec.upto fnCopyBackwardSpec)

end Rows
end Go.Proofs.YtgpflkmelindfaaGreat
