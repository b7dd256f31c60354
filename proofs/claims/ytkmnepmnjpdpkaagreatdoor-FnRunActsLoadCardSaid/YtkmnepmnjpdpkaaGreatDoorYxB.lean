/- Contracts of functions on views and memories that the laws of this seat call. -/
import Derived.Test.YtkmnepmnjpdpkaaGreatDoorYxA
import Derived.Test.YtkmnepmnjpdpkaaGreatDoorEvC
import Derived.Test.YtkmnepmnjpdpkaaGreatDoorShelf
import Derived.Lib.LaidU8
import Derived.Shelf.Vars
import Derived.LaidMore
import Derived.OpenShut
import Derived.Stop.Joined
import Derived.SevenTiedAt
import Derived.Test.YtkmnepmnjpdpkaaGreatDoorRows
import Derived.Test.YtkmnepmnjpdpkaaGreatDoorXy
import Derived.Test.YtkmnepmnjpdpkaaGreatDoorXz
set_option linter.all false
namespace Go.Proofs.YtkmnepmnjpdpkaaGreatDoor
open Go Go.Ev Go.RowKit Go.Ev.Enc Go.Pl Go.WideShapes Go.ChangeShapes
set_option maxRecDepth 100000
abbrev laidT : List (String × DataW Unit) := YtkmnepmnjpdpkaaGreatDoor.Rows.fnParseActRow.laid
noncomputable def wT (os : Os) : World :=
  { World.doorLaid Tryz.prog 3000 os with heap := (match (World.doorLaid Tryz.prog 3000 os).heap[8]? with
    | some (Obj.cells _ t f) => (World.doorLaid Tryz.prog 3000 os).heap.setIfInBounds 8 (Obj.cells (Lib.firstTab.map fun z => Value.int .u8 z).toArray t f)
    | _ => (World.doorLaid Tryz.prog 3000 os).heap) }
theorem door_metT (os : Os) (args : Array Value) : laidMetH Tryz.prog laidT ((wT os).forCall (fun _ _ => 0) ⟨#[], args, []⟩).memory :=
  laidMetH_of_parts3 (fuel := 8) (laidMet_of_run' 8 (by kernel_rfl) (by kernel_rfl)) (by kernel_rfl) (by kernel_rfl)
theorem shT (os : Os) : ((wT os).forCall (fun _ _ => 0) ⟨#[], #[.slice none 0 0], []⟩).Shaped Tryz.prog := World.shaped_of_RefB (by kernel_rfl) (by kernel_rfl)
theorem mem_at {α : Type} {l : List α} {a : α} (i : Nat) (h : l[i]? = some a) : a ∈ l := List.mem_of_getElem? h
theorem gl_ofT {W : World} (h : laidMetH Tryz.prog laidT W) (hsh : W.ShapedOpen Tryz.prog) : GOKw (fun b => b < W.heap.size) W := by
  rw [MakeChecks.laidMetH_plain _ _ _ (by kernel_rfl)] at h
  have h1 := Lib.laidMet.reads h (n := "loop.example/strideviews/impl.actCounts") (d := Lib.tabData .i64 [1, 3, 4, 1, 2, 2, 1, 1]) (mem_at 7 rfl)
  have h2 := Lib.laidMet.reads h (n := "internal/strconv.uint64pow10") (d := Lib.tabData .u64 Lib.pow10Tab) (mem_at 2 rfl)
  have h3 := Lib.laidMet.reads h (n := "loop.example/strideviews/impl.actNames") (d := .agg (nmL.map fun z => .lit (.string z))) (mem_at 6 rfl)
  have h4 := Lib.laidMet.reads h (n := "strconv.ErrSyntax") (d := YtkmnepmnjpdpkaaGreatDoor.Rows.laid_strconv_ErrSyntax) (mem_at 5 rfl)
  have h5 := Lib.laidMet.reads h (n := "strconv.ErrRange") (d := YtkmnepmnjpdpkaaGreatDoor.Rows.laid_strconv_ErrRange) (mem_at 4 rfl)
  exact glGOK ⟨varOK_tab (g := 1) (by kernel_rfl) (by kernel_rfl) Tryz.underlying111 Tryz.underlying3 (by kernel_rfl) (by kernel_rfl) h1,
    varOK_tab (g := 3) (by kernel_rfl) (by kernel_rfl) Tryz.underlying170 Tryz.underlying153 (by kernel_rfl) (by kernel_rfl) h2,
    varOK_strs (g := 0) (by kernel_rfl) (by kernel_rfl) Tryz.underlying75 Tryz.underlying9 (by kernel_rfl) (by kernel_rfl) h3,
    varOK_int (g := 2) (by kernel_rfl) (cell_of_shapedOpen_int (t := 3) (zero := #[.int .i64 0]) hsh (by decide +kernel) (by kernel_rfl) rfl (by kernel_rfl) (by kernel_rfl) Tryz.underlying3),
    varOK_iface (g := 4) (by kernel_rfl) (by kernel_rfl) Tryz.underlying118 h4,
    varOK_iface (g := 5) (by kernel_rfl) (by kernel_rfl) Tryz.underlying118 h5⟩
theorem varsT : ∀ n ∈ ["loop.example/strideviews/impl.actNames", "loop.example/strideviews/impl.actCounts"], VarRd Tryz.prog n := by
  intro n hn
  simp only [List.mem_cons, List.not_mem_nil, or_false] at hn
  rcases hn with rfl | rfl
  · exact ⟨0, 75, by kernel_rfl, by kernel_rfl, by kernel_rfl, by decide +kernel⟩
  · exact ⟨1, 111, by kernel_rfl, by kernel_rfl, by kernel_rfl, by decide +kernel⟩
theorem mutP : MutP := fun hC hb p hp s hs => isp_mutate sndA rfl rfl hC hb p hp s hs
end Go.Proofs.YtkmnepmnjpdpkaaGreatDoor
namespace Go.Proofs.YtkmnepmnjpdpkaaGreatDoor
open Go Go.Ev Go.RowKit Go.Ev.Enc Go.Pl Go.WideShapes Go.ChangeShapes
set_option maxRecDepth 100000
theorem sesP : SesP := fun hC hb p hp => isp_session sndA rfl rfl rfl rfl rfl rfl rfl hC hb p hp newS someAct applyS mutP
theorem drRun : DrTxt 22 := fun bs hb L => isp_DrawRunActs sndA rfl rfl bs hb L sesP
theorem runS2 : RunS := fun s hs L => isp_RunActsS sndA rfl rfl rfl s hs L newS applyS
end Go.Proofs.YtkmnepmnjpdpkaaGreatDoor
namespace Go.Proofs.YtkmnepmnjpdpkaaGreatDoor
open Go Go.Ev Go.RowKit Go.Ev.Enc Go.Pl Go.WideShapes Go.ChangeShapes
set_option maxRecDepth 100000
end Go.Proofs.YtkmnepmnjpdpkaaGreatDoor
