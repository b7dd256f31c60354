/-
  No cell of these rows narrows 'for every input' (looked for: loops, veiled, ifaces, maps, wideKeys, modest, calm, conditions, laid).
  DERIVED. THE GIVEN ROWS OF THIS SEAT. 4 by the template 'for every input the law returns true; each argument reads behind the call as it read before'; 0 by the template 'total and deterministic' (their statements: YtokpibajolhelaaGreatTotals.lean).
  GIVEN WITH THE SEED: the statements are not yours to turn. If you find one false, say at which input.
  Laid BY PROGRAM, IN A SANDBOX (cutbox-rows.mjs): the forced cells as the released guide's own fill.sh prints them over the translation b8e50eda3cc58885… (all of the seat's roots in one cut). By AI agents, Wed Nov 11 2026. No macro, syntax, notation, axiom, sorry.
-/
import Derived.Test.YtokpibajolhelaaGreatChecked
import GoSem.Claim
import GoSem.ClaimJoined
import GoSem.ClaimMapViews
import Derived.JoinedTies
import Derived.KernelRfl
namespace Go.Proofs.YtokpibajolhelaaGreat
/- THE CELL 'sum', in the pinned program and in every row, IS THE sha256 OF THE DUMP (.gsa) THAT YtokpibajolhelaaGreatProg.lean LOADS. Nothing in Lean hashes anything: it is a label: what it is worth is what the hold of that sum in a sandbox is worth. -/
noncomputable def Tryz.pinned : Pinned := { name := "ytokpibajolhelaagreat", sum := "b8e50eda3cc5888514ad922b644144d822ebd697bddcdd5450862f694cadb170", checked := Tryz.checked }
namespace Rows
def none {H : Type} : Left H := { results := [], args := [] }

/-- 'laws.FnExportView': WHATEVER THE INPUT: true; the input reads as it did. -/
def fnExportViewSpec : ChangeSpec := { name := "fnExportView", fn := fun _ => fun
  | [d] => { results := [.lit (.bool true)], args := [d] }
  | _ => none }
def fnExportViewRow : OpenClaim := { program := "ytokpibajolhelaagreat", sum := "b8e50eda3cc5888514ad922b644144d822ebd697bddcdd5450862f694cadb170", func := "loop.example/strideviews/laws.FnExportView", spec := "fnExportView", unfollowed := true, recurses := true, apart := false }
def FnExportViewSaid : Prop := fnExportViewRow.holds Tryz.pinned (OpenSpec.ofChange fnExportViewSpec)

/-- ITS FALSE NEIGHBOUR: 'it returns false'. Refute it at one input. -/
def fnExportViewWrong : ChangeSpec := { name := "fnExportView", fn := fun _ => fun
  | [d] => { results := [.lit (.bool false)], args := [d] }
  | _ => none }
def FnExportViewWrongFalsely : Prop := fnExportViewRow.holds Tryz.pinned (OpenSpec.ofChange fnExportViewWrong)

/-- 'laws.FnFillExport': WHATEVER THE INPUT: true; the input reads as it did. -/
def fnFillExportSpec : ChangeSpec := { name := "fnFillExport", fn := fun _ => fun
  | [d] => { results := [.lit (.bool true)], args := [d] }
  | _ => none }
def fnFillExportRow : OpenClaim := { program := "ytokpibajolhelaagreat", sum := "b8e50eda3cc5888514ad922b644144d822ebd697bddcdd5450862f694cadb170", func := "loop.example/strideviews/laws.FnFillExport", spec := "fnFillExport", unfollowed := true, recurses := true, apart := false }
def FnFillExportSaid : Prop := fnFillExportRow.holds Tryz.pinned (OpenSpec.ofChange fnFillExportSpec)

/-- ITS FALSE NEIGHBOUR: 'it returns false'. Refute it at one input. -/
def fnFillExportWrong : ChangeSpec := { name := "fnFillExport", fn := fun _ => fun
  | [d] => { results := [.lit (.bool false)], args := [d] }
  | _ => none }
def FnFillExportWrongFalsely : Prop := fnFillExportRow.holds Tryz.pinned (OpenSpec.ofChange fnFillExportWrong)

/-- 'laws.FnCopyExport': WHATEVER THE INPUT: true; the input reads as it did. -/
def fnCopyExportSpec : ChangeSpec := { name := "fnCopyExport", fn := fun _ => fun
  | [d] => { results := [.lit (.bool true)], args := [d] }
  | _ => none }
def fnCopyExportRow : OpenClaim := { program := "ytokpibajolhelaagreat", sum := "b8e50eda3cc5888514ad922b644144d822ebd697bddcdd5450862f694cadb170", func := "loop.example/strideviews/laws.FnCopyExport", spec := "fnCopyExport", unfollowed := true, recurses := true, apart := false }
def FnCopyExportSaid : Prop := fnCopyExportRow.holds Tryz.pinned (OpenSpec.ofChange fnCopyExportSpec)

/-- ITS FALSE NEIGHBOUR: 'it returns false'. Refute it at one input. -/
def fnCopyExportWrong : ChangeSpec := { name := "fnCopyExport", fn := fun _ => fun
  | [d] => { results := [.lit (.bool false)], args := [d] }
  | _ => none }
def FnCopyExportWrongFalsely : Prop := fnCopyExportRow.holds Tryz.pinned (OpenSpec.ofChange fnCopyExportWrong)

/-- 'laws.FnExportPart': WHATEVER THE INPUT: true; the input reads as it did. -/
def fnExportPartSpec : ChangeSpec := { name := "fnExportPart", fn := fun _ => fun
  | [d] => { results := [.lit (.bool true)], args := [d] }
  | _ => none }
def fnExportPartRow : OpenClaim := { program := "ytokpibajolhelaagreat", sum := "b8e50eda3cc5888514ad922b644144d822ebd697bddcdd5450862f694cadb170", func := "loop.example/strideviews/laws.FnExportPart", spec := "fnExportPart", unfollowed := true, recurses := true, apart := false }
def FnExportPartSaid : Prop := fnExportPartRow.holds Tryz.pinned (OpenSpec.ofChange fnExportPartSpec)

/-- ITS FALSE NEIGHBOUR: 'it returns false'. Refute it at one input. -/
def fnExportPartWrong : ChangeSpec := { name := "fnExportPart", fn := fun _ => fun
  | [d] => { results := [.lit (.bool false)], args := [d] }
  | _ => none }
def FnExportPartWrongFalsely : Prop := fnExportPartRow.holds Tryz.pinned (OpenSpec.ofChange fnExportPartWrong)

/- THE SECOND FORM. 'bulk': how many values and letters a reading holds, each counted each time it is reached (what is shared counts as often as it is met; a slice's spare places count too). A statement '..UptoSaid' is the law's where the arguments, and the package variables that the reading takes, are together of bulk at most 1048576: NARROWER than '..Said'. Prove '..Said' where nothing that the law and all that it calls make is longer than what came in: it says more and counts as full. Else prove '..UptoSaid'. A law counts once. -/
mutual
def uptoBulk {H : Type} : DataW H → Nat
  | .lit (.string bytes) => bytes.length + 1
  | .lit _ => 1
  | .nil => 1
  | .ptr d => uptoBulk d + 1
  | .slice elems spare => uptoBulkAll elems + uptoBulkAll spare + 1
  | .agg parts => uptoBulkAll parts + 1
  | .iface _ d => uptoBulk d + 1
  | .map entries => uptoBulkEntries entries + 1
  | .held _ => 1
def uptoBulkAll {H : Type} : List (DataW H) → Nat
  | [] => 0
  | d :: r => uptoBulk d + uptoBulkAll r
def uptoBulkEntries {H : Type} : List (Lit × DataW H) → Nat
  | [] => 0
  | x :: r => uptoBulkEntry x + uptoBulkEntries r
def uptoBulkEntry {H : Type} : Lit × DataW H → Nat
  | (.string bytes, d) => bytes.length + uptoBulk d + 1
  | (_, d) => uptoBulk d + 1
 end
def uptoSmall : (H : Type) → List (DataW H) → Bool := fun _ ds => decide (uptoBulkAll ds ≤ 1048576)
def OpenSpec.upto (s : _root_.Go.ChangeSpec) : _root_.Go.OpenSpec := { _root_.Go.OpenSpec.ofChange s with cond := some uptoSmall }

/-- 'laws.FnExportView', WHERE WHAT IT READS IS OF BULK AT MOST 1048576: true; the input reads as it did. -/
def fnExportViewUptoRow : OpenClaim := { program := "ytokpibajolhelaagreat", sum := "b8e50eda3cc5888514ad922b644144d822ebd697bddcdd5450862f694cadb170", func := "loop.example/strideviews/laws.FnExportView", spec := "fnExportView", unfollowed := true, recurses := true, apart := false, narrowed := true }
def FnExportViewUptoSaid : Prop := fnExportViewUptoRow.holds Tryz.pinned (OpenSpec.upto fnExportViewSpec)

/-- 'laws.FnFillExport', WHERE WHAT IT READS IS OF BULK AT MOST 1048576: true; the input reads as it did. -/
def fnFillExportUptoRow : OpenClaim := { program := "ytokpibajolhelaagreat", sum := "b8e50eda3cc5888514ad922b644144d822ebd697bddcdd5450862f694cadb170", func := "loop.example/strideviews/laws.FnFillExport", spec := "fnFillExport", unfollowed := true, recurses := true, apart := false, narrowed := true }
def FnFillExportUptoSaid : Prop := fnFillExportUptoRow.holds Tryz.pinned (OpenSpec.upto fnFillExportSpec)

/-- 'laws.FnCopyExport', WHERE WHAT IT READS IS OF BULK AT MOST 1048576: true; the input reads as it did. -/
def fnCopyExportUptoRow : OpenClaim := { program := "ytokpibajolhelaagreat", sum := "b8e50eda3cc5888514ad922b644144d822ebd697bddcdd5450862f694cadb170", func := "loop.example/strideviews/laws.FnCopyExport", spec := "fnCopyExport", unfollowed := true, recurses := true, apart := false, narrowed := true }
def FnCopyExportUptoSaid : Prop := fnCopyExportUptoRow.holds Tryz.pinned (OpenSpec.upto fnCopyExportSpec)

/-- 'laws.FnExportPart', WHERE WHAT IT READS IS OF BULK AT MOST 1048576: true; the input reads as it did. -/
def fnExportPartUptoRow : OpenClaim := { program := "ytokpibajolhelaagreat", sum := "b8e50eda3cc5888514ad922b644144d822ebd697bddcdd5450862f694cadb170", func := "loop.example/strideviews/laws.FnExportPart", spec := "fnExportPart", unfollowed := true, recurses := true, apart := false, narrowed := true }
def FnExportPartUptoSaid : Prop := fnExportPartUptoRow.holds Tryz.pinned (OpenSpec.upto fnExportPartSpec)

end Rows
end Go.Proofs.YtokpibajolhelaaGreat
