/-
  No cell of these rows narrows 'for every input' (looked for: loops, veiled, ifaces, maps, wideKeys, modest, calm, conditions, laid).
  DERIVED. THE GIVEN ROWS OF THIS SEAT. 5 by the template 'for every input the law returns true; each argument reads behind the call as it read before'; 0 by the template 'total and deterministic' (their statements: YtfjhhbpipococaaTotals.lean).
  GIVEN WITH THE SEED: the statements are not yours to turn. If you find one false, say at which input.
  Laid BY PROGRAM, IN A SANDBOX (cutbox-rows.mjs): the forced cells as the released guide's own fill.sh prints them over the translation d2701199b392ecfa… (all of the seat's roots in one cut). By AI agents, Wed Nov 11 2026. No macro, syntax, notation, axiom, sorry.
-/
import Derived.Test.YtfjhhbpipococaaChecked
import GoSem.Claim
import GoSem.ClaimJoined
import GoSem.ClaimMapViews
import Derived.JoinedTies
import Derived.KernelRfl
namespace Go.Proofs.Ytfjhhbpipococaa
/- THE CELL 'sum', in the pinned program and in every row, IS THE sha256 OF THE DUMP (.gsa) THAT YtfjhhbpipococaaProg.lean LOADS. Nothing in Lean hashes anything: it is a label: what it is worth is what the hold of that sum in a sandbox is worth. -/
noncomputable def Try.pinned : Pinned := { name := "ytfjhhbpipococaa", sum := "d2701199b392ecfa4f269386136af4d99db5875771c69237460ca0f396d87238", checked := Try.checked }
namespace Rows
def none {H : Type} : Left H := { results := [], args := [] }

/-- 'laws.FnExactContractBy': WHATEVER THE INPUT: true; the input reads as it did. -/
def fnExactContractBySpec : ChangeSpec := { name := "fnExactContractBy", fn := fun _ => fun
  | [d1, d2, d3, d4, d5] => { results := [.lit (.bool true)], args := [d1, d2, d3, d4, d5] }
  | _ => none }
def fnExactContractByRow : OpenClaim := { program := "ytfjhhbpipococaa", sum := "d2701199b392ecfa4f269386136af4d99db5875771c69237460ca0f396d87238", func := "loop.example/strideviews/laws.FnExactContractBy", spec := "fnExactContractBy", unfollowed := true, recurses := true, apart := false }
def FnExactContractBySaid : Prop := fnExactContractByRow.holds Try.pinned (OpenSpec.ofChange fnExactContractBySpec)

/-- ITS FALSE NEIGHBOUR: 'it returns false'. Refute it at one input. -/
def fnExactContractByWrong : ChangeSpec := { name := "fnExactContractBy", fn := fun _ => fun
  | [d1, d2, d3, d4, d5] => { results := [.lit (.bool false)], args := [d1, d2, d3, d4, d5] }
  | _ => none }
def FnExactContractByWrongFalsely : Prop := fnExactContractByRow.holds Try.pinned (OpenSpec.ofChange fnExactContractByWrong)

/-- 'laws.FnContractBy': WHATEVER THE INPUT: true; the input reads as it did. -/
def fnContractBySpec : ChangeSpec := { name := "fnContractBy", fn := fun _ => fun
  | [d] => { results := [.lit (.bool true)], args := [d] }
  | _ => none }
def fnContractByRow : OpenClaim := { program := "ytfjhhbpipococaa", sum := "d2701199b392ecfa4f269386136af4d99db5875771c69237460ca0f396d87238", func := "loop.example/strideviews/laws.FnContractBy", spec := "fnContractBy", unfollowed := true, recurses := true, apart := false }
def FnContractBySaid : Prop := fnContractByRow.holds Try.pinned (OpenSpec.ofChange fnContractBySpec)

/-- ITS FALSE NEIGHBOUR: 'it returns false'. Refute it at one input. -/
def fnContractByWrong : ChangeSpec := { name := "fnContractBy", fn := fun _ => fun
  | [d] => { results := [.lit (.bool false)], args := [d] }
  | _ => none }
def FnContractByWrongFalsely : Prop := fnContractByRow.holds Try.pinned (OpenSpec.ofChange fnContractByWrong)

/-- 'laws.FnBestPair': WHATEVER THE INPUT: true; the input reads as it did. -/
def fnBestPairSpec : ChangeSpec := { name := "fnBestPair", fn := fun _ => fun
  | [d] => { results := [.lit (.bool true)], args := [d] }
  | _ => none }
def fnBestPairRow : OpenClaim := { program := "ytfjhhbpipococaa", sum := "d2701199b392ecfa4f269386136af4d99db5875771c69237460ca0f396d87238", func := "loop.example/strideviews/laws.FnBestPair", spec := "fnBestPair", unfollowed := true, recurses := true, apart := false }
def FnBestPairSaid : Prop := fnBestPairRow.holds Try.pinned (OpenSpec.ofChange fnBestPairSpec)

/-- ITS FALSE NEIGHBOUR: 'it returns false'. Refute it at one input. -/
def fnBestPairWrong : ChangeSpec := { name := "fnBestPair", fn := fun _ => fun
  | [d] => { results := [.lit (.bool false)], args := [d] }
  | _ => none }
def FnBestPairWrongFalsely : Prop := fnBestPairRow.holds Try.pinned (OpenSpec.ofChange fnBestPairWrong)

/-- 'laws.FnContract': WHATEVER THE INPUT: true; the input reads as it did. -/
def fnContractSpec : ChangeSpec := { name := "fnContract", fn := fun _ => fun
  | [d] => { results := [.lit (.bool true)], args := [d] }
  | _ => none }
def fnContractRow : OpenClaim := { program := "ytfjhhbpipococaa", sum := "d2701199b392ecfa4f269386136af4d99db5875771c69237460ca0f396d87238", func := "loop.example/strideviews/laws.FnContract", spec := "fnContract", unfollowed := true, recurses := true, apart := false }
def FnContractSaid : Prop := fnContractRow.holds Try.pinned (OpenSpec.ofChange fnContractSpec)

/-- ITS FALSE NEIGHBOUR: 'it returns false'. Refute it at one input. -/
def fnContractWrong : ChangeSpec := { name := "fnContract", fn := fun _ => fun
  | [d] => { results := [.lit (.bool false)], args := [d] }
  | _ => none }
def FnContractWrongFalsely : Prop := fnContractRow.holds Try.pinned (OpenSpec.ofChange fnContractWrong)

/-- 'laws.FnContractSum': WHATEVER THE INPUT: true; the input reads as it did. -/
def fnContractSumSpec : ChangeSpec := { name := "fnContractSum", fn := fun _ => fun
  | [d] => { results := [.lit (.bool true)], args := [d] }
  | _ => none }
def fnContractSumRow : OpenClaim := { program := "ytfjhhbpipococaa", sum := "d2701199b392ecfa4f269386136af4d99db5875771c69237460ca0f396d87238", func := "loop.example/strideviews/laws.FnContractSum", spec := "fnContractSum", unfollowed := true, recurses := true, apart := false }
def FnContractSumSaid : Prop := fnContractSumRow.holds Try.pinned (OpenSpec.ofChange fnContractSumSpec)

/-- ITS FALSE NEIGHBOUR: 'it returns false'. Refute it at one input. -/
def fnContractSumWrong : ChangeSpec := { name := "fnContractSum", fn := fun _ => fun
  | [d] => { results := [.lit (.bool false)], args := [d] }
  | _ => none }
def FnContractSumWrongFalsely : Prop := fnContractSumRow.holds Try.pinned (OpenSpec.ofChange fnContractSumWrong)

/- THE SECOND FORM. 'bulk': how many values and letters a reading holds, each counted each time it is reached (what is shared counts as often as it is met; a slice's spare places count too). A statement '..UptoSaid' is the law's where the arguments, and the package variables that the reading takes, are together of bulk at most 1048576: NARROWER than '..Said'. Prove '..Said' where nothing that the law and all that it calls make is longer than what came in: it says more and counts as full. Else prove '..UptoSaid'. A law counts once. -/
mutual
def uptoBulk {H : Type} : DataW H → Nat
  | .lit (.string bytes) => bytes.length + 1
  | .lit _ => 1
  | .nil => 1
  | .ptr d => uptoBulk d + 1
  | .slice elems spare => uptoBulkAll elems + uptoBulkAll spare + 1
  | .agg parts => uptoBulkAll parts + 1
  | .iface _ d => uptoBulk d + 1
  | .map entries => uptoBulkEntries entries + 1
  | .held _ => 1
def uptoBulkAll {H : Type} : List (DataW H) → Nat
  | [] => 0
  | d :: r => uptoBulk d + uptoBulkAll r
def uptoBulkEntries {H : Type} : List (Lit × DataW H) → Nat
  | [] => 0
  | x :: r => uptoBulkEntry x + uptoBulkEntries r
def uptoBulkEntry {H : Type} : Lit × DataW H → Nat
  | (.string bytes, d) => bytes.length + uptoBulk d + 1
  | (_, d) => uptoBulk d + 1
 end
def uptoSmall : (H : Type) → List (DataW H) → Bool := fun _ ds => decide (uptoBulkAll ds ≤ 1048576)
def OpenSpec.upto (s : _root_.Go.ChangeSpec) : _root_.Go.OpenSpec := { _root_.Go.OpenSpec.ofChange s with cond := some uptoSmall }

/-- 'laws.FnExactContractBy', WHERE WHAT IT READS IS OF BULK AT MOST 1048576: true; the input reads as it did. -/
def fnExactContractByUptoRow : OpenClaim := { program := "ytfjhhbpipococaa", sum := "d2701199b392ecfa4f269386136af4d99db5875771c69237460ca0f396d87238", func := "loop.example/strideviews/laws.FnExactContractBy", spec := "fnExactContractBy", unfollowed := true, recurses := true, apart := false, narrowed := true }
def FnExactContractByUptoSaid : Prop := fnExactContractByUptoRow.holds Try.pinned (OpenSpec.upto fnExactContractBySpec)

/-- 'laws.FnContractBy', WHERE WHAT IT READS IS OF BULK AT MOST 1048576: true; the input reads as it did. -/
def fnContractByUptoRow : OpenClaim := { program := "ytfjhhbpipococaa", sum := "d2701199b392ecfa4f269386136af4d99db5875771c69237460ca0f396d87238", func := "loop.example/strideviews/laws.FnContractBy", spec := "fnContractBy", unfollowed := true, recurses := true, apart := false, narrowed := true }
def FnContractByUptoSaid : Prop := fnContractByUptoRow.holds Try.pinned (OpenSpec.upto fnContractBySpec)

/-- 'laws.FnBestPair', WHERE WHAT IT READS IS OF BULK AT MOST 1048576: true; the input reads as it did. -/
def fnBestPairUptoRow : OpenClaim := { program := "ytfjhhbpipococaa", sum := "d2701199b392ecfa4f269386136af4d99db5875771c69237460ca0f396d87238", func := "loop.example/strideviews/laws.FnBestPair", spec := "fnBestPair", unfollowed := true, recurses := true, apart := false, narrowed := true }
def FnBestPairUptoSaid : Prop := fnBestPairUptoRow.holds Try.pinned (OpenSpec.upto fnBestPairSpec)

/-- 'laws.FnContract', WHERE WHAT IT READS IS OF BULK AT MOST 1048576: true; the input reads as it did. -/
def fnContractUptoRow : OpenClaim := { program := "ytfjhhbpipococaa", sum := "d2701199b392ecfa4f269386136af4d99db5875771c69237460ca0f396d87238", func := "loop.example/strideviews/laws.FnContract", spec := "fnContract", unfollowed := true, recurses := true, apart := false, narrowed := true }
def FnContractUptoSaid : Prop := fnContractUptoRow.holds Try.pinned (OpenSpec.upto fnContractSpec)

/-- 'laws.FnContractSum', WHERE WHAT IT READS IS OF BULK AT MOST 1048576: true; the input reads as it did. -/
def fnContractSumUptoRow : OpenClaim := { program := "ytfjhhbpipococaa", sum := "d2701199b392ecfa4f269386136af4d99db5875771c69237460ca0f396d87238", func := "loop.example/strideviews/laws.FnContractSum", spec := "fnContractSum", unfollowed := true, recurses := true, apart := false, narrowed := true }
def FnContractSumUptoSaid : Prop := fnContractSumUptoRow.holds Try.pinned (OpenSpec.upto fnContractSumSpec)

end Rows
end Go.Proofs.Ytfjhhbpipococaa
