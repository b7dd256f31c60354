/- Contracts of functions that the laws of this seat call. -/
import Derived.Test.YtkmnepmnjpdpkaaDoorXXd
import Derived.Test.YtkmnepmnjpdpkaaDoorEvC
set_option linter.all false
set_option maxRecDepth 100000
namespace Go.Proofs.YtkmnepmnjpdpkaaDoor
open Go Go.Ev Go.RowKit Go.Ev.Enc
noncomputable def sg0 : FuncId → Option (List AV → Option AV) := fun _ => none
theorem snd0 : Sound Tryd.prog sg0 := Sound.none
noncomputable def sg1 : FuncId → Option (List AV → Option AV) := upd sg0 33 (F3 gInRange)
theorem snd1 : Sound Tryd.prog sg1 := snd0.add ⟨_, Tryd.func33, rfl, rfl⟩ (spec_inRange snd0 )
noncomputable def sg2 : FuncId → Option (List AV → Option AV) := upd sg1 35 (F3 gAllIn)
theorem snd2 : Sound Tryd.prog sg2 := snd1.add ⟨_, Tryd.func35, rfl, rfl⟩ (spec_allIn snd1 rfl)
noncomputable def sg3 : FuncId → Option (List AV → Option AV) := upd sg2 17 (F2 gEqInts)
theorem snd3 : Sound Tryd.prog sg3 := snd2.add ⟨_, Tryd.func17, rfl, rfl⟩ (spec_eqIntS snd2 )
noncomputable def sg4 : FuncId → Option (List AV → Option AV) := upd sg3 19 (F2 gHeldI)
theorem snd4 : Sound Tryd.prog sg4 := snd3.add ⟨_, Tryd.func19, rfl, rfl⟩ (spec_heldIntS snd3 )
noncomputable def sg5 : FuncId → Option (List AV → Option AV) := upd sg4 32 (F1 gNum)
theorem snd5 : Sound Tryd.prog sg5 := snd4.add ⟨_, Tryd.func32, rfl, rfl⟩ (spec_number snd4 )
noncomputable def sg6 : FuncId → Option (List AV → Option AV) := upd sg5 29 (F1 gNum)
theorem snd6 : Sound Tryd.prog sg6 := snd5.add ⟨_, Tryd.func29, rfl, rfl⟩ (spec_Itoa snd5 )
noncomputable def sg7 : FuncId → Option (List AV → Option AV) := upd sg6 30 (F1 gActB)
theorem snd7 : Sound Tryd.prog sg7 := snd6.add ⟨_, Tryd.func30, rfl, rfl⟩ (spec_isAct snd6 rfl rfl)
noncomputable def sg8 : FuncId → Option (List AV → Option AV) := upd sg7 34 (F1 gNeeds)
theorem snd8 : Sound Tryd.prog sg8 := snd7.add ⟨_, Tryd.func34, rfl, rfl⟩ (spec_needs snd7 )
noncomputable def sg9 : FuncId → Option (List AV → Option AV) := upd sg8 25 (F1 gActB)
theorem snd9 : Sound Tryd.prog sg9 := snd8.add ⟨_, Tryd.func25, rfl, rfl⟩ (spec_validAct snd8 rfl rfl rfl)
noncomputable def sg10 : FuncId → Option (List AV → Option AV) := upd sg9 28 (F1 gAtoi)
theorem snd10 : Sound Tryd.prog sg10 := snd9.add ⟨_, Tryd.func28, rfl, rfl⟩ (spec_Atoi snd9 )
noncomputable def sg11 : FuncId → Option (List AV → Option AV) := upd sg10 26 (F2 gSplit)
theorem snd11 : Sound Tryd.prog sg11 := snd10.add ⟨_, Tryd.func26, rfl, rfl⟩ (spec_Split snd10 )
noncomputable def sg12 : FuncId → Option (List AV → Option AV) := upd sg11 31 (F2 gCut)
theorem snd12 : Sound Tryd.prog sg12 := snd11.add ⟨_, Tryd.func31, rfl, rfl⟩ (spec_Cut snd11 )
noncomputable def sg13 : FuncId → Option (List AV → Option AV) := upd sg12 23 (F0 gWords)
theorem snd13 : Sound Tryd.prog sg13 := snd12.add ⟨_, Tryd.func23, rfl, rfl⟩ (spec_actWords snd12 )
noncomputable def sg14 : FuncId → Option (List AV → Option AV) := upd sg13 27 (F2 gIdx)
theorem snd14 : Sound Tryd.prog sg14 := snd13.add ⟨_, Tryd.func27, rfl, rfl⟩ (spec_Index snd13 )
noncomputable def sg15 : FuncId → Option (List AV → Option AV) := upd sg14 22 (F2 gSpl)
theorem snd15 : Sound Tryd.prog sg15 := snd14.add ⟨_, Tryd.func22, rfl, rfl⟩ (spec_splitAt snd14 )
noncomputable def sg16 : FuncId → Option (List AV → Option AV) := upd sg15 24 (F1 gRd)
theorem snd16 : Sound Tryd.prog sg16 := snd15.add ⟨_, Tryd.func24, rfl, rfl⟩ (spec_readNumber snd15 rfl)
noncomputable def sg17 : FuncId → Option (List AV → Option AV) := upd sg16 15 (F1 gPar)
theorem snd17 : Sound Tryd.prog sg17 := snd16.add ⟨_, Tryd.func15, rfl, rfl⟩ (spec_parseActS snd16 rfl rfl rfl rfl)
noncomputable def sg18 : FuncId → Option (List AV → Option AV) := upd sg17 20 (F1 gActs)
theorem snd18 : Sound Tryd.prog sg18 := snd17.add ⟨_, Tryd.func20, rfl, rfl⟩ (spec_actsS snd17 rfl rfl)
noncomputable def sg19 : FuncId → Option (List AV → Option AV) := upd sg18 10 (F1 gActs)
theorem snd19 : Sound Tryd.prog sg19 := snd18.add ⟨_, Tryd.func10, rfl, rfl⟩ (spec_ActsInS snd18 rfl)
noncomputable def sg20 : FuncId → Option (List AV → Option AV) := upd sg19 5 (F1 gPar)
theorem snd20 : Sound Tryd.prog sg20 := snd19.add ⟨_, Tryd.func5, rfl, rfl⟩ (spec_ParseActS snd19 rfl)
noncomputable def sg21 : FuncId → Option (List AV → Option AV) := upd sg20 9 (F2 gHeldA)
theorem snd21 : Sound Tryd.prog sg21 := snd20.add ⟨_, Tryd.func9, rfl, rfl⟩ (spec_heldAct snd20 rfl)
noncomputable def sg22 : FuncId → Option (List AV → Option AV) := upd sg21 7 (F2 gEqX)
theorem snd22 : Sound Tryd.prog sg22 := snd21.add ⟨_, Tryd.func7, rfl, rfl⟩ (spec_eqAct snd21 rfl)
noncomputable def sg23 : FuncId → Option (List AV → Option AV) := upd sg22 14 (F2 gHeldAs)
theorem snd23 : Sound Tryd.prog sg23 := snd22.add ⟨_, Tryd.func14, rfl, rfl⟩ (spec_heldActS snd22 rfl)
noncomputable def sg24 : FuncId → Option (List AV → Option AV) := upd sg23 12 (F2 gEqAs)
theorem snd24 : Sound Tryd.prog sg24 := snd23.add ⟨_, Tryd.func12, rfl, rfl⟩ (spec_eqActS snd23 rfl)
noncomputable def sgA : FuncId → Option (List AV → Option AV) := sg24
theorem sndA : Sound Tryd.prog sgA := snd24
end Go.Proofs.YtkmnepmnjpdpkaaDoor
