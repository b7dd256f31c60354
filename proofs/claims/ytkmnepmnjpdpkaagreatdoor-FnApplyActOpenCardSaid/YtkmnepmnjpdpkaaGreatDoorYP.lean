/- Contracts of functions that the laws of this seat call. -/
import Derived.Test.YtkmnepmnjpdpkaaGreatDoorYC
import Derived.Test.YtkmnepmnjpdpkaaGreatDoorEvC
import Derived.Test.YtkmnepmnjpdpkaaGreatDoorX2
import Derived.Test.YtkmnepmnjpdpkaaGreatDoorRows
import Derived.LaidMore
import Derived.OpenShut
import Derived.Stop.Joined
import Derived.SevenTiedAt
set_option linter.all false
namespace Go.Proofs.YtkmnepmnjpdpkaaGreatDoor
open Go Go.Ev Go.RowKit Go.Ev.Enc Go.Pl Go.WideShapes Go.ChangeShapes
set_option maxRecDepth 100000
theorem someActL : SomeActL := fun hC hb p hp B hB => isp_someActL sndA rfl rfl rfl (lt := litOn) rfl hC hb p hp B hB
theorem anyAct : AnyAct := fun hC hb p hp B hB => isp_anyAct sndA rfl rfl rfl hC hb p hp B hB someActL
theorem drApp : DrApp := fun bs hb L => isp_DrawApplyAct sndA rfl rfl rfl bs hb L someB anyAct
theorem appD : AppD := fun B hB a ha M => isp_applyD sndA rfl rfl rfl rfl spB B hB a ha 0 0 M (Nat.zero_le _) fun M h => isp_doneD sndD rfl rfl rfl rfl rfl rfl rfl spB B hB a ha 0 0 M h
theorem can_ApplyActS : CanCall Tryz.prog 29 := ⟨_, Tryz.func29, rfl, rfl⟩
theorem spec_AppS : ∀ a r, F2 gAppX a = some r → CSpec Tryz.prog 29 a r := by
  refine F2_spec ?_
  intro B a r hr
  obtain ⟨h, rfl⟩ := gd_some hr
  refine (o_ApplyActS sndA rfl rfl rfl rfl B a h appD cpBS).cspec ?_ (own (btP _)) (exp_bt _)
  show [_, _] = [_, _]
  rw [map_bf0]
  simp [exp, expE, expC, stepC, ints, Function.comp_def, enc_ac]
theorem sndB : Sound Tryz.prog (upd sgA 29 (F2 gAppX)) := sndA.add can_ApplyActS spec_AppS
abbrev laidP : List (String × DataW Unit) := YtkmnepmnjpdpkaaGreatDoor.Rows.fnApplyActRow.laid
theorem door_metP (os : Os) (args : Array Value) : laidMetH Tryz.prog laidP ((World.doorLaid Tryz.prog 3000 os).forCall (fun _ _ => 0) ⟨#[], args, []⟩).memory :=
  laidMetH_of_parts3 (fuel := 8) (laidMet_of_run' 8 (by kernel_rfl) (by kernel_rfl)) (by kernel_rfl) (by kernel_rfl)
theorem gl_ofP {W : World} (h : laidMetH Tryz.prog laidP W) : GOKw (fun b => b < W.heap.size) W := by
  rw [MakeChecks.laidMetH_plain _ _ _ (by kernel_rfl)] at h
  have h1 := Lib.laidMet.reads h (n := "loop.example/strideviews/impl.actCounts") (d := Lib.tabData .i64 [1, 3, 4, 1, 2, 2, 1, 1]) (List.mem_cons_of_mem _ (List.mem_cons_of_mem _ (List.mem_cons_of_mem _ (List.mem_cons_self ..))))
  have h2 := Lib.laidMet.reads h (n := "internal/strconv.uint64pow10") (d := Lib.tabData .u64 Lib.pow10Tab) (List.mem_cons_of_mem _ (List.mem_cons_of_mem _ (List.mem_cons_self ..)))
  exact glGOK ⟨varOK_tab (g := 1) (by kernel_rfl) (by kernel_rfl) Tryz.underlying111 Tryz.underlying3 (by kernel_rfl) (by kernel_rfl) h1, varOK_tab (g := 3) (by kernel_rfl) (by kernel_rfl) Tryz.underlying170 Tryz.underlying153 (by kernel_rfl) (by kernel_rfl) h2⟩
theorem varsP : ∀ n ∈ ["loop.example/strideviews/impl.actCounts"], VarRd Tryz.prog n := by
  intro n hn
  obtain rfl := List.mem_singleton.1 hn
  exact ⟨1, 111, by kernel_rfl, by kernel_rfl, by kernel_rfl, by decide +kernel⟩
end Go.Proofs.YtkmnepmnjpdpkaaGreatDoor
