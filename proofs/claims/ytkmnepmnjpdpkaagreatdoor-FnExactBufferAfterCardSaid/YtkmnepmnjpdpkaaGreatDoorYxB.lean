/- Contracts of functions on views and memories that the laws of this seat call. -/
import Derived.Test.YtkmnepmnjpdpkaaGreatDoorYxA
import Derived.Test.YtkmnepmnjpdpkaaGreatDoorEvC
import Derived.Test.YtkmnepmnjpdpkaaGreatDoorShelf
import Derived.Lib.LaidU8
import Derived.Shelf.Vars
import Derived.LaidMore
import Derived.OpenShut
import Derived.Stop.Joined
import Derived.SevenTiedAt
import Derived.Test.YtkmnepmnjpdpkaaGreatDoorRows
import Derived.Test.YtkmnepmnjpdpkaaGreatDoorXxB
import Derived.Test.YtkmnepmnjpdpkaaGreatDoorXz
set_option linter.all false
namespace Go.Proofs.YtkmnepmnjpdpkaaGreatDoor
open Go Go.Ev Go.RowKit Go.Ev.Enc Go.Pl Go.WideShapes Go.ChangeShapes
set_option maxRecDepth 100000
abbrev laidT : List (String × DataW Unit) := YtkmnepmnjpdpkaaGreatDoor.Rows.fnParseActRow.laid
noncomputable def wT (os : Os) : World :=
  { World.doorLaid Tryz.prog 3000 os with heap := (match (World.doorLaid Tryz.prog 3000 os).heap[8]? with
    | some (Obj.cells _ t f) => (World.doorLaid Tryz.prog 3000 os).heap.setIfInBounds 8 (Obj.cells (Lib.firstTab.map fun z => Value.int .u8 z).toArray t f)
    | _ => (World.doorLaid Tryz.prog 3000 os).heap) }
theorem door_metT (os : Os) (args : Array Value) : laidMetH Tryz.prog laidT ((wT os).forCall (fun _ _ => 0) ⟨#[], args, []⟩).memory :=
  laidMetH_of_parts3 (fuel := 8) (laidMet_of_run' 8 (by kernel_rfl) (by kernel_rfl)) (by kernel_rfl) (by kernel_rfl)
theorem mem_at {α : Type} {l : List α} {a : α} (i : Nat) (h : l[i]? = some a) : a ∈ l := List.mem_of_getElem? h
theorem gl_ofT {W : World} (h : laidMetH Tryz.prog laidT W) (hsh : W.ShapedOpen Tryz.prog) : GOKw (fun b => b < W.heap.size) W := by
  rw [MakeChecks.laidMetH_plain _ _ _ (by kernel_rfl)] at h
  have h1 := Lib.laidMet.reads h (n := "loop.example/strideviews/impl.actCounts") (d := Lib.tabData .i64 [1, 3, 4, 1, 2, 2, 1, 1]) (mem_at 7 rfl)
  have h2 := Lib.laidMet.reads h (n := "internal/strconv.uint64pow10") (d := Lib.tabData .u64 Lib.pow10Tab) (mem_at 2 rfl)
  have h3 := Lib.laidMet.reads h (n := "loop.example/strideviews/impl.actNames") (d := .agg (nmL.map fun z => .lit (.string z))) (mem_at 6 rfl)
  have h4 := Lib.laidMet.reads h (n := "strconv.ErrSyntax") (d := YtkmnepmnjpdpkaaGreatDoor.Rows.laid_strconv_ErrSyntax) (mem_at 5 rfl)
  have h5 := Lib.laidMet.reads h (n := "strconv.ErrRange") (d := YtkmnepmnjpdpkaaGreatDoor.Rows.laid_strconv_ErrRange) (mem_at 4 rfl)
  exact glGOK ⟨varOK_tab (g := 1) (by kernel_rfl) (by kernel_rfl) Tryz.underlying111 Tryz.underlying3 (by kernel_rfl) (by kernel_rfl) h1,
    varOK_tab (g := 3) (by kernel_rfl) (by kernel_rfl) Tryz.underlying170 Tryz.underlying153 (by kernel_rfl) (by kernel_rfl) h2,
    varOK_strs (g := 0) (by kernel_rfl) (by kernel_rfl) Tryz.underlying75 Tryz.underlying9 (by kernel_rfl) (by kernel_rfl) h3,
    varOK_int (g := 2) (by kernel_rfl) (cell_of_shapedOpen_int (t := 3) (zero := #[.int .i64 0]) hsh (by decide +kernel) (by kernel_rfl) rfl (by kernel_rfl) (by kernel_rfl) Tryz.underlying3),
    varOK_iface (g := 4) (by kernel_rfl) (by kernel_rfl) Tryz.underlying118 h4,
    varOK_iface (g := 5) (by kernel_rfl) (by kernel_rfl) Tryz.underlying118 h5⟩
theorem varsT : ∀ n ∈ ["loop.example/strideviews/impl.actNames", "loop.example/strideviews/impl.actCounts"], VarRd Tryz.prog n := by
  intro n hn
  simp only [List.mem_cons, List.not_mem_nil, or_false] at hn
  rcases hn with rfl | rfl
  · exact ⟨0, 75, by kernel_rfl, by kernel_rfl, by kernel_rfl, by decide +kernel⟩
  · exact ⟨1, 111, by kernel_rfl, by kernel_rfl, by kernel_rfl, by decide +kernel⟩
end Go.Proofs.YtkmnepmnjpdpkaaGreatDoor
namespace Go.Proofs.YtkmnepmnjpdpkaaGreatDoor
open Go Go.Ev Go.RowKit Go.Ev.Enc Go.Pl Go.WideShapes Go.ChangeShapes
set_option maxRecDepth 100000
end Go.Proofs.YtkmnepmnjpdpkaaGreatDoor
namespace Go.Proofs.YtkmnepmnjpdpkaaGreatDoor
open Go Go.Ev Go.RowKit Go.Ev.Enc Go.Pl Go.WideShapes Go.ChangeShapes
set_option maxRecDepth 100000
theorem aftS : AftS := fun s hs L => isp_BufferAfterS sndA rfl rfl rfl rfl s hs L newS applyS cpBS
end Go.Proofs.YtkmnepmnjpdpkaaGreatDoor
namespace Go.Proofs.YtkmnepmnjpdpkaaGreatDoor
open Go Go.Ev Go.RowKit Go.Ev.Enc Go.Pl Go.WideShapes Go.ChangeShapes
set_option maxRecDepth 100000
theorem cpX : CpX := fun B h => isp_copyBufferX (sndA.hide 130) rfl B h
theorem filI : FilI := fun m v y h => o_FillViewI sndA rfl rfl rfl m v y h
theorem stoI : StoI := fun m v V e hV => o_storeViewI sndA rfl m v V e hV
theorem cpyI : CpyI := fun m a b h => o_CopyViewI (sndA.hide 165) rfl rfl rfl m a b h stoI
theorem sliX : SliX := fun v d s h1 h2 hd => isp_sliceDimX ((sndA.hide 130).hide 193) rfl rfl rfl rfl v d s h1 h2 hd
theorem sliDX : SliDX := fun v d s h => isp_SliceDimX (sndA.hide 162) rfl rfl rfl v d s h sliX
theorem exvX : ExvX := fun B v h1 h2 => isp_ExportViewX (((sndA.hide 129).hide 130).hide 99) rfl rfl rfl rfl rfl rfl B v h1 h2 cpX
theorem expX : ExpX := fun B id d s h => isp_ExportPartX (((sndA.hide 131).hide 129).hide 99) rfl rfl rfl rfl B id d s h cpX sliDX
theorem filX : FilX := fun B id x h => isp_FillExportX ((sndA.hide 132).hide 99) rfl rfl rfl B id x h cpX filI
theorem cpyX : CpyX := fun B a b h => isp_CopyExportX ((sndA.hide 133).hide 99) rfl rfl rfl B a b h cpX cpyI
theorem relX : RelX := fun B id h => isp_ReleaseExportX (sndA.hide 99) rfl rfl rfl B id h cpX
theorem rszX : RszX := fun B n h => isp_ResizeBufferX (sndA.hide 99) rfl rfl rfl rfl B n h cpX
theorem appX : AppX := appX_of (((((((sndA.hide 91).hide 92).hide 93).hide 94).hide 95).hide 96).hide 99) rfl rfl rfl rfl rfl rfl rfl rfl rfl rfl cpX rszX exvX expX filX cpyX relX
theorem mkE : MkE := fun xl k j L a b c d e f => isp_markExportS sndA rfl xl k j L a b c d e f
end Go.Proofs.YtkmnepmnjpdpkaaGreatDoor
namespace Go.Proofs.YtkmnepmnjpdpkaaGreatDoor
open Go Go.Ev Go.RowKit Go.Ev.Enc Go.Pl Go.WideShapes Go.ChangeShapes
set_option maxRecDepth 100000
theorem newX : NewX := isp_NewBufferX sndA rfl trivial
theorem bufX : BufX := fun s h => isp_BufferAfterX ((sndA.hide 18).hide 53) rfl rfl rfl s h newX appX
theorem mkBB : MkBB := fun B k i be js xl L h hB hk => isp_markBuffer sndA rfl rfl B k i be js xl L h hB hk mkE
end Go.Proofs.YtkmnepmnjpdpkaaGreatDoor
