/-
  No cell of these rows narrows 'for every input' (looked for: loops, veiled, ifaces, maps, wideKeys, modest, calm, conditions, laid).
  DERIVED. THE GIVEN ROWS OF THIS SEAT. 12 by the template 'for every input the law returns true; each argument reads behind the call as it read before'; 0 by the template 'total and deterministic' (their statements: YtbibnkgcegbmiaaTotals.lean).
  GIVEN WITH THE SEED: the statements are not yours to turn. If you find one false, say at which input.
  Laid BY PROGRAM, IN A SANDBOX (cutbox-rows.mjs): the forced cells as the released guide's own fill.sh prints them over the translation f67eaac9200c29a8… (all of the seat's roots in one cut). By AI agents, Wed Nov 11 2026. No macro, syntax, notation, axiom, sorry.
-/
import Derived.Test.YtbibnkgcegbmiaaChecked
import GoSem.Claim
import GoSem.ClaimJoined
import GoSem.ClaimMapViews
import Derived.JoinedTies
import Derived.KernelRfl
namespace Go.Proofs.Ytbibnkgcegbmiaa
/- THE CELL 'sum', in the pinned program and in every row, IS THE sha256 OF THE DUMP (.gsa) THAT YtbibnkgcegbmiaaProg.lean LOADS. Nothing in Lean hashes anything: it is a label: what it is worth is what the hold of that sum in a sandbox is worth. -/
noncomputable def Try.pinned : Pinned := { name := "ytbibnkgcegbmiaa", sum := "f67eaac9200c29a88520f45fcfec8b46793e173aed04093080dc873502084819", checked := Try.checked }
namespace Rows
def none {H : Type} : Left H := { results := [], args := [] }

/-- 'laws.FnExactCostBy': WHATEVER THE INPUT: true; the input reads as it did. -/
def fnExactCostBySpec : ChangeSpec := { name := "fnExactCostBy", fn := fun _ => fun
  | [d1, d2, d3, d4, d5] => { results := [.lit (.bool true)], args := [d1, d2, d3, d4, d5] }
  | _ => none }
def fnExactCostByRow : OpenClaim := { program := "ytbibnkgcegbmiaa", sum := "f67eaac9200c29a88520f45fcfec8b46793e173aed04093080dc873502084819", func := "loop.example/strideviews/laws.FnExactCostBy", spec := "fnExactCostBy", unfollowed := true, recurses := true, apart := false }
def FnExactCostBySaid : Prop := fnExactCostByRow.holds Try.pinned (OpenSpec.ofChange fnExactCostBySpec)

/-- ITS FALSE NEIGHBOUR: 'it returns false'. Refute it at one input. -/
def fnExactCostByWrong : ChangeSpec := { name := "fnExactCostBy", fn := fun _ => fun
  | [d1, d2, d3, d4, d5] => { results := [.lit (.bool false)], args := [d1, d2, d3, d4, d5] }
  | _ => none }
def FnExactCostByWrongFalsely : Prop := fnExactCostByRow.holds Try.pinned (OpenSpec.ofChange fnExactCostByWrong)

/-- 'laws.FnExactTraceOf': WHATEVER THE INPUT: true; the input reads as it did. -/
def fnExactTraceOfSpec : ChangeSpec := { name := "fnExactTraceOf", fn := fun _ => fun
  | [d] => { results := [.lit (.bool true)], args := [d] }
  | _ => none }
def fnExactTraceOfRow : OpenClaim := { program := "ytbibnkgcegbmiaa", sum := "f67eaac9200c29a88520f45fcfec8b46793e173aed04093080dc873502084819", func := "loop.example/strideviews/laws.FnExactTraceOf", spec := "fnExactTraceOf", unfollowed := true, recurses := true, apart := false }
def FnExactTraceOfSaid : Prop := fnExactTraceOfRow.holds Try.pinned (OpenSpec.ofChange fnExactTraceOfSpec)

/-- ITS FALSE NEIGHBOUR: 'it returns false'. Refute it at one input. -/
def fnExactTraceOfWrong : ChangeSpec := { name := "fnExactTraceOf", fn := fun _ => fun
  | [d] => { results := [.lit (.bool false)], args := [d] }
  | _ => none }
def FnExactTraceOfWrongFalsely : Prop := fnExactTraceOfRow.holds Try.pinned (OpenSpec.ofChange fnExactTraceOfWrong)

/-- 'laws.FnExactBestPair': WHATEVER THE INPUT: true; the input reads as it did. -/
def fnExactBestPairSpec : ChangeSpec := { name := "fnExactBestPair", fn := fun _ => fun
  | [d1, d2, d3] => { results := [.lit (.bool true)], args := [d1, d2, d3] }
  | _ => none }
def fnExactBestPairRow : OpenClaim := { program := "ytbibnkgcegbmiaa", sum := "f67eaac9200c29a88520f45fcfec8b46793e173aed04093080dc873502084819", func := "loop.example/strideviews/laws.FnExactBestPair", spec := "fnExactBestPair", unfollowed := true, recurses := true, apart := false }
def FnExactBestPairSaid : Prop := fnExactBestPairRow.holds Try.pinned (OpenSpec.ofChange fnExactBestPairSpec)

/-- ITS FALSE NEIGHBOUR: 'it returns false'. Refute it at one input. -/
def fnExactBestPairWrong : ChangeSpec := { name := "fnExactBestPair", fn := fun _ => fun
  | [d1, d2, d3] => { results := [.lit (.bool false)], args := [d1, d2, d3] }
  | _ => none }
def FnExactBestPairWrongFalsely : Prop := fnExactBestPairRow.holds Try.pinned (OpenSpec.ofChange fnExactBestPairWrong)

/-- 'laws.FnExactMatMul': WHATEVER THE INPUT: true; the input reads as it did. -/
def fnExactMatMulSpec : ChangeSpec := { name := "fnExactMatMul", fn := fun _ => fun
  | [d1, d2] => { results := [.lit (.bool true)], args := [d1, d2] }
  | _ => none }
def fnExactMatMulRow : OpenClaim := { program := "ytbibnkgcegbmiaa", sum := "f67eaac9200c29a88520f45fcfec8b46793e173aed04093080dc873502084819", func := "loop.example/strideviews/laws.FnExactMatMul", spec := "fnExactMatMul", unfollowed := true, recurses := true, apart := false }
def FnExactMatMulSaid : Prop := fnExactMatMulRow.holds Try.pinned (OpenSpec.ofChange fnExactMatMulSpec)

/-- ITS FALSE NEIGHBOUR: 'it returns false'. Refute it at one input. -/
def fnExactMatMulWrong : ChangeSpec := { name := "fnExactMatMul", fn := fun _ => fun
  | [d1, d2] => { results := [.lit (.bool false)], args := [d1, d2] }
  | _ => none }
def FnExactMatMulWrongFalsely : Prop := fnExactMatMulRow.holds Try.pinned (OpenSpec.ofChange fnExactMatMulWrong)

/-- 'laws.FnTraceOfProduct': WHATEVER THE INPUT: true; the input reads as it did. -/
def fnTraceOfProductSpec : ChangeSpec := { name := "fnTraceOfProduct", fn := fun _ => fun
  | [d] => { results := [.lit (.bool true)], args := [d] }
  | _ => none }
def fnTraceOfProductRow : OpenClaim := { program := "ytbibnkgcegbmiaa", sum := "f67eaac9200c29a88520f45fcfec8b46793e173aed04093080dc873502084819", func := "loop.example/strideviews/laws.FnTraceOfProduct", spec := "fnTraceOfProduct", unfollowed := true, recurses := true, apart := false }
def FnTraceOfProductSaid : Prop := fnTraceOfProductRow.holds Try.pinned (OpenSpec.ofChange fnTraceOfProductSpec)

/-- ITS FALSE NEIGHBOUR: 'it returns false'. Refute it at one input. -/
def fnTraceOfProductWrong : ChangeSpec := { name := "fnTraceOfProduct", fn := fun _ => fun
  | [d] => { results := [.lit (.bool false)], args := [d] }
  | _ => none }
def FnTraceOfProductWrongFalsely : Prop := fnTraceOfProductRow.holds Try.pinned (OpenSpec.ofChange fnTraceOfProductWrong)

/-- 'laws.FnTraceOf': WHATEVER THE INPUT: true; the input reads as it did. -/
def fnTraceOfSpec : ChangeSpec := { name := "fnTraceOf", fn := fun _ => fun
  | [d] => { results := [.lit (.bool true)], args := [d] }
  | _ => none }
def fnTraceOfRow : OpenClaim := { program := "ytbibnkgcegbmiaa", sum := "f67eaac9200c29a88520f45fcfec8b46793e173aed04093080dc873502084819", func := "loop.example/strideviews/laws.FnTraceOf", spec := "fnTraceOf", unfollowed := true, recurses := true, apart := false }
def FnTraceOfSaid : Prop := fnTraceOfRow.holds Try.pinned (OpenSpec.ofChange fnTraceOfSpec)

/-- ITS FALSE NEIGHBOUR: 'it returns false'. Refute it at one input. -/
def fnTraceOfWrong : ChangeSpec := { name := "fnTraceOf", fn := fun _ => fun
  | [d] => { results := [.lit (.bool false)], args := [d] }
  | _ => none }
def FnTraceOfWrongFalsely : Prop := fnTraceOfRow.holds Try.pinned (OpenSpec.ofChange fnTraceOfWrong)

/-- 'laws.FnContractOrder': WHATEVER THE INPUT: true; the input reads as it did. -/
def fnContractOrderSpec : ChangeSpec := { name := "fnContractOrder", fn := fun _ => fun
  | [d] => { results := [.lit (.bool true)], args := [d] }
  | _ => none }
def fnContractOrderRow : OpenClaim := { program := "ytbibnkgcegbmiaa", sum := "f67eaac9200c29a88520f45fcfec8b46793e173aed04093080dc873502084819", func := "loop.example/strideviews/laws.FnContractOrder", spec := "fnContractOrder", unfollowed := true, recurses := true, apart := false }
def FnContractOrderSaid : Prop := fnContractOrderRow.holds Try.pinned (OpenSpec.ofChange fnContractOrderSpec)

/-- ITS FALSE NEIGHBOUR: 'it returns false'. Refute it at one input. -/
def fnContractOrderWrong : ChangeSpec := { name := "fnContractOrder", fn := fun _ => fun
  | [d] => { results := [.lit (.bool false)], args := [d] }
  | _ => none }
def FnContractOrderWrongFalsely : Prop := fnContractOrderRow.holds Try.pinned (OpenSpec.ofChange fnContractOrderWrong)

/-- 'laws.FnContractScale': WHATEVER THE INPUT: true; the input reads as it did. -/
def fnContractScaleSpec : ChangeSpec := { name := "fnContractScale", fn := fun _ => fun
  | [d] => { results := [.lit (.bool true)], args := [d] }
  | _ => none }
def fnContractScaleRow : OpenClaim := { program := "ytbibnkgcegbmiaa", sum := "f67eaac9200c29a88520f45fcfec8b46793e173aed04093080dc873502084819", func := "loop.example/strideviews/laws.FnContractScale", spec := "fnContractScale", unfollowed := true, recurses := true, apart := false }
def FnContractScaleSaid : Prop := fnContractScaleRow.holds Try.pinned (OpenSpec.ofChange fnContractScaleSpec)

/-- ITS FALSE NEIGHBOUR: 'it returns false'. Refute it at one input. -/
def fnContractScaleWrong : ChangeSpec := { name := "fnContractScale", fn := fun _ => fun
  | [d] => { results := [.lit (.bool false)], args := [d] }
  | _ => none }
def FnContractScaleWrongFalsely : Prop := fnContractScaleRow.holds Try.pinned (OpenSpec.ofChange fnContractScaleWrong)

/-- 'laws.FnMatMul': WHATEVER THE INPUT: true; the input reads as it did. -/
def fnMatMulSpec : ChangeSpec := { name := "fnMatMul", fn := fun _ => fun
  | [d] => { results := [.lit (.bool true)], args := [d] }
  | _ => none }
def fnMatMulRow : OpenClaim := { program := "ytbibnkgcegbmiaa", sum := "f67eaac9200c29a88520f45fcfec8b46793e173aed04093080dc873502084819", func := "loop.example/strideviews/laws.FnMatMul", spec := "fnMatMul", unfollowed := true, recurses := true, apart := false }
def FnMatMulSaid : Prop := fnMatMulRow.holds Try.pinned (OpenSpec.ofChange fnMatMulSpec)

/-- ITS FALSE NEIGHBOUR: 'it returns false'. Refute it at one input. -/
def fnMatMulWrong : ChangeSpec := { name := "fnMatMul", fn := fun _ => fun
  | [d] => { results := [.lit (.bool false)], args := [d] }
  | _ => none }
def FnMatMulWrongFalsely : Prop := fnMatMulRow.holds Try.pinned (OpenSpec.ofChange fnMatMulWrong)

/-- 'laws.FnMatMulThree': WHATEVER THE INPUT: true; the input reads as it did. -/
def fnMatMulThreeSpec : ChangeSpec := { name := "fnMatMulThree", fn := fun _ => fun
  | [d] => { results := [.lit (.bool true)], args := [d] }
  | _ => none }
def fnMatMulThreeRow : OpenClaim := { program := "ytbibnkgcegbmiaa", sum := "f67eaac9200c29a88520f45fcfec8b46793e173aed04093080dc873502084819", func := "loop.example/strideviews/laws.FnMatMulThree", spec := "fnMatMulThree", unfollowed := true, recurses := true, apart := false }
def FnMatMulThreeSaid : Prop := fnMatMulThreeRow.holds Try.pinned (OpenSpec.ofChange fnMatMulThreeSpec)

/-- ITS FALSE NEIGHBOUR: 'it returns false'. Refute it at one input. -/
def fnMatMulThreeWrong : ChangeSpec := { name := "fnMatMulThree", fn := fun _ => fun
  | [d] => { results := [.lit (.bool false)], args := [d] }
  | _ => none }
def FnMatMulThreeWrongFalsely : Prop := fnMatMulThreeRow.holds Try.pinned (OpenSpec.ofChange fnMatMulThreeWrong)

/-- 'laws.FnContractSum': WHATEVER THE INPUT: true; the input reads as it did. -/
def fnContractSumSpec : ChangeSpec := { name := "fnContractSum", fn := fun _ => fun
  | [d] => { results := [.lit (.bool true)], args := [d] }
  | _ => none }
def fnContractSumRow : OpenClaim := { program := "ytbibnkgcegbmiaa", sum := "f67eaac9200c29a88520f45fcfec8b46793e173aed04093080dc873502084819", func := "loop.example/strideviews/laws.FnContractSum", spec := "fnContractSum", unfollowed := true, recurses := true, apart := false }
def FnContractSumSaid : Prop := fnContractSumRow.holds Try.pinned (OpenSpec.ofChange fnContractSumSpec)

/-- ITS FALSE NEIGHBOUR: 'it returns false'. Refute it at one input. -/
def fnContractSumWrong : ChangeSpec := { name := "fnContractSum", fn := fun _ => fun
  | [d] => { results := [.lit (.bool false)], args := [d] }
  | _ => none }
def FnContractSumWrongFalsely : Prop := fnContractSumRow.holds Try.pinned (OpenSpec.ofChange fnContractSumWrong)

/-- 'laws.FnExactContract': WHATEVER THE INPUT: true; the input reads as it did. -/
def fnExactContractSpec : ChangeSpec := { name := "fnExactContract", fn := fun _ => fun
  | [d1, d2, d3] => { results := [.lit (.bool true)], args := [d1, d2, d3] }
  | _ => none }
def fnExactContractRow : OpenClaim := { program := "ytbibnkgcegbmiaa", sum := "f67eaac9200c29a88520f45fcfec8b46793e173aed04093080dc873502084819", func := "loop.example/strideviews/laws.FnExactContract", spec := "fnExactContract", unfollowed := true, recurses := true, apart := false }
def FnExactContractSaid : Prop := fnExactContractRow.holds Try.pinned (OpenSpec.ofChange fnExactContractSpec)

/-- ITS FALSE NEIGHBOUR: 'it returns false'. Refute it at one input. -/
def fnExactContractWrong : ChangeSpec := { name := "fnExactContract", fn := fun _ => fun
  | [d1, d2, d3] => { results := [.lit (.bool false)], args := [d1, d2, d3] }
  | _ => none }
def FnExactContractWrongFalsely : Prop := fnExactContractRow.holds Try.pinned (OpenSpec.ofChange fnExactContractWrong)

/- THE SECOND FORM. 'bulk': how many values and letters a reading holds, each counted each time it is reached (what is shared counts as often as it is met; a slice's spare places count too). A statement '..UptoSaid' is the law's where the arguments, and the package variables that the reading takes, are together of bulk at most 1048576: NARROWER than '..Said'. Prove '..Said' where nothing that the law and all that it calls make is longer than what came in: it says more and counts as full. Else prove '..UptoSaid'. A law counts once. -/
mutual
def uptoBulk {H : Type} : DataW H → Nat
  | .lit (.string bytes) => bytes.length + 1
  | .lit _ => 1
  | .nil => 1
  | .ptr d => uptoBulk d + 1
  | .slice elems spare => uptoBulkAll elems + uptoBulkAll spare + 1
  | .agg parts => uptoBulkAll parts + 1
  | .iface _ d => uptoBulk d + 1
  | .map entries => uptoBulkEntries entries + 1
  | .held _ => 1
def uptoBulkAll {H : Type} : List (DataW H) → Nat
  | [] => 0
  | d :: r => uptoBulk d + uptoBulkAll r
def uptoBulkEntries {H : Type} : List (Lit × DataW H) → Nat
  | [] => 0
  | x :: r => uptoBulkEntry x + uptoBulkEntries r
def uptoBulkEntry {H : Type} : Lit × DataW H → Nat
  | (.string bytes, d) => bytes.length + uptoBulk d + 1
  | (_, d) => uptoBulk d + 1
 end
def uptoSmall : (H : Type) → List (DataW H) → Bool := fun _ ds => decide (uptoBulkAll ds ≤ 1048576)
def OpenSpec.upto (s : _root_.Go.ChangeSpec) : _root_.Go.OpenSpec := { _root_.Go.OpenSpec.ofChange s with cond := some uptoSmall }

/-- 'laws.FnExactCostBy', WHERE WHAT IT READS IS OF BULK AT MOST 1048576: true; the input reads as it did. -/
def fnExactCostByUptoRow : OpenClaim := { program := "ytbibnkgcegbmiaa", sum := "f67eaac9200c29a88520f45fcfec8b46793e173aed04093080dc873502084819", func := "loop.example/strideviews/laws.FnExactCostBy", spec := "fnExactCostBy", unfollowed := true, recurses := true, apart := false, narrowed := true }
def FnExactCostByUptoSaid : Prop := fnExactCostByUptoRow.holds Try.pinned (OpenSpec.upto fnExactCostBySpec)

/-- 'laws.FnExactTraceOf', WHERE WHAT IT READS IS OF BULK AT MOST 1048576: true; the input reads as it did. -/
def fnExactTraceOfUptoRow : OpenClaim := { program := "ytbibnkgcegbmiaa", sum := "f67eaac9200c29a88520f45fcfec8b46793e173aed04093080dc873502084819", func := "loop.example/strideviews/laws.FnExactTraceOf", spec := "fnExactTraceOf", unfollowed := true, recurses := true, apart := false, narrowed := true }
def FnExactTraceOfUptoSaid : Prop := fnExactTraceOfUptoRow.holds Try.pinned (OpenSpec.upto fnExactTraceOfSpec)

/-- 'laws.FnExactBestPair', WHERE WHAT IT READS IS OF BULK AT MOST 1048576: true; the input reads as it did. -/
def fnExactBestPairUptoRow : OpenClaim := { program := "ytbibnkgcegbmiaa", sum := "f67eaac9200c29a88520f45fcfec8b46793e173aed04093080dc873502084819", func := "loop.example/strideviews/laws.FnExactBestPair", spec := "fnExactBestPair", unfollowed := true, recurses := true, apart := false, narrowed := true }
def FnExactBestPairUptoSaid : Prop := fnExactBestPairUptoRow.holds Try.pinned (OpenSpec.upto fnExactBestPairSpec)

/-- 'laws.FnExactMatMul', WHERE WHAT IT READS IS OF BULK AT MOST 1048576: true; the input reads as it did. -/
def fnExactMatMulUptoRow : OpenClaim := { program := "ytbibnkgcegbmiaa", sum := "f67eaac9200c29a88520f45fcfec8b46793e173aed04093080dc873502084819", func := "loop.example/strideviews/laws.FnExactMatMul", spec := "fnExactMatMul", unfollowed := true, recurses := true, apart := false, narrowed := true }
def FnExactMatMulUptoSaid : Prop := fnExactMatMulUptoRow.holds Try.pinned (OpenSpec.upto fnExactMatMulSpec)

/-- 'laws.FnTraceOfProduct', WHERE WHAT IT READS IS OF BULK AT MOST 1048576: true; the input reads as it did. -/
def fnTraceOfProductUptoRow : OpenClaim := { program := "ytbibnkgcegbmiaa", sum := "f67eaac9200c29a88520f45fcfec8b46793e173aed04093080dc873502084819", func := "loop.example/strideviews/laws.FnTraceOfProduct", spec := "fnTraceOfProduct", unfollowed := true, recurses := true, apart := false, narrowed := true }
def FnTraceOfProductUptoSaid : Prop := fnTraceOfProductUptoRow.holds Try.pinned (OpenSpec.upto fnTraceOfProductSpec)

/-- 'laws.FnTraceOf', WHERE WHAT IT READS IS OF BULK AT MOST 1048576: true; the input reads as it did. -/
def fnTraceOfUptoRow : OpenClaim := { program := "ytbibnkgcegbmiaa", sum := "f67eaac9200c29a88520f45fcfec8b46793e173aed04093080dc873502084819", func := "loop.example/strideviews/laws.FnTraceOf", spec := "fnTraceOf", unfollowed := true, recurses := true, apart := false, narrowed := true }
def FnTraceOfUptoSaid : Prop := fnTraceOfUptoRow.holds Try.pinned (OpenSpec.upto fnTraceOfSpec)

/-- 'laws.FnContractOrder', WHERE WHAT IT READS IS OF BULK AT MOST 1048576: true; the input reads as it did. -/
def fnContractOrderUptoRow : OpenClaim := { program := "ytbibnkgcegbmiaa", sum := "f67eaac9200c29a88520f45fcfec8b46793e173aed04093080dc873502084819", func := "loop.example/strideviews/laws.FnContractOrder", spec := "fnContractOrder", unfollowed := true, recurses := true, apart := false, narrowed := true }
def FnContractOrderUptoSaid : Prop := fnContractOrderUptoRow.holds Try.pinned (OpenSpec.upto fnContractOrderSpec)

/-- 'laws.FnContractScale', WHERE WHAT IT READS IS OF BULK AT MOST 1048576: true; the input reads as it did. -/
def fnContractScaleUptoRow : OpenClaim := { program := "ytbibnkgcegbmiaa", sum := "f67eaac9200c29a88520f45fcfec8b46793e173aed04093080dc873502084819", func := "loop.example/strideviews/laws.FnContractScale", spec := "fnContractScale", unfollowed := true, recurses := true, apart := false, narrowed := true }
def FnContractScaleUptoSaid : Prop := fnContractScaleUptoRow.holds Try.pinned (OpenSpec.upto fnContractScaleSpec)

/-- 'laws.FnMatMul', WHERE WHAT IT READS IS OF BULK AT MOST 1048576: true; the input reads as it did. -/
def fnMatMulUptoRow : OpenClaim := { program := "ytbibnkgcegbmiaa", sum := "f67eaac9200c29a88520f45fcfec8b46793e173aed04093080dc873502084819", func := "loop.example/strideviews/laws.FnMatMul", spec := "fnMatMul", unfollowed := true, recurses := true, apart := false, narrowed := true }
def FnMatMulUptoSaid : Prop := fnMatMulUptoRow.holds Try.pinned (OpenSpec.upto fnMatMulSpec)

/-- 'laws.FnMatMulThree', WHERE WHAT IT READS IS OF BULK AT MOST 1048576: true; the input reads as it did. -/
def fnMatMulThreeUptoRow : OpenClaim := { program := "ytbibnkgcegbmiaa", sum := "f67eaac9200c29a88520f45fcfec8b46793e173aed04093080dc873502084819", func := "loop.example/strideviews/laws.FnMatMulThree", spec := "fnMatMulThree", unfollowed := true, recurses := true, apart := false, narrowed := true }
def FnMatMulThreeUptoSaid : Prop := fnMatMulThreeUptoRow.holds Try.pinned (OpenSpec.upto fnMatMulThreeSpec)

/-- 'laws.FnContractSum', WHERE WHAT IT READS IS OF BULK AT MOST 1048576: true; the input reads as it did. -/
def fnContractSumUptoRow : OpenClaim := { program := "ytbibnkgcegbmiaa", sum := "f67eaac9200c29a88520f45fcfec8b46793e173aed04093080dc873502084819", func := "loop.example/strideviews/laws.FnContractSum", spec := "fnContractSum", unfollowed := true, recurses := true, apart := false, narrowed := true }
def FnContractSumUptoSaid : Prop := fnContractSumUptoRow.holds Try.pinned (OpenSpec.upto fnContractSumSpec)

/-- 'laws.FnExactContract', WHERE WHAT IT READS IS OF BULK AT MOST 1048576: true; the input reads as it did. -/
def fnExactContractUptoRow : OpenClaim := { program := "ytbibnkgcegbmiaa", sum := "f67eaac9200c29a88520f45fcfec8b46793e173aed04093080dc873502084819", func := "loop.example/strideviews/laws.FnExactContract", spec := "fnExactContract", unfollowed := true, recurses := true, apart := false, narrowed := true }
def FnExactContractUptoSaid : Prop := fnExactContractUptoRow.holds Try.pinned (OpenSpec.upto fnExactContractSpec)

end Rows
end Go.Proofs.Ytbibnkgcegbmiaa
