/- Contracts of functions on views and memories that the laws of this seat call. -/
import Derived.Test.YtkmnepmnjpdpkaaGreatDoorYxA
import Derived.Test.YtkmnepmnjpdpkaaGreatDoorEvC
import Derived.Test.YtkmnepmnjpdpkaaGreatDoorX2
import Derived.Test.YtkmnepmnjpdpkaaGreatDoorRows
import Derived.LaidMore
import Derived.OpenShut
import Derived.Stop.Joined
import Derived.SevenTiedAt
import Derived.Test.YtkmnepmnjpdpkaaGreatDoorXXl
set_option linter.all false
namespace Go.Proofs.YtkmnepmnjpdpkaaGreatDoor
open Go Go.Ev Go.RowKit Go.Ev.Enc Go.Pl Go.WideShapes Go.ChangeShapes
set_option maxRecDepth 100000
theorem appD : AppD := fun B hB a ha M => isp_applyD sndA rfl rfl rfl rfl spB B hB a ha 0 0 M (Nat.zero_le _) fun M h => isp_doneD sndD rfl rfl rfl rfl rfl rfl rfl spB B hB a ha 0 0 M h
theorem can_ApplyActS : CanCall Tryz.prog 29 := ⟨_, Tryz.func29, rfl, rfl⟩
theorem spec_AppS : ∀ a r, F2 gAppX a = some r → CSpec Tryz.prog 29 a r := by
  refine F2_spec ?_
  intro B a r hr
  obtain ⟨h, rfl⟩ := gd_some hr
  refine (o_ApplyActS sndA rfl rfl rfl rfl B a h appD cpBS).cspec ?_ (own (btP _)) (exp_bt _)
  show [_, _] = [_, _]
  rw [map_bf0]
  simp [exp, expE, expC, stepC, ints, Function.comp_def, enc_ac]
theorem sndB : Sound Tryz.prog (upd sgA 29 (F2 gAppX)) := sndA.add can_ApplyActS spec_AppS
abbrev laidP : List (String × DataW Unit) := YtkmnepmnjpdpkaaGreatDoor.Rows.fnApplyActRow.laid
theorem door_metP (os : Os) (args : Array Value) : laidMetH Tryz.prog laidP ((World.doorLaid Tryz.prog 3000 os).forCall (fun _ _ => 0) ⟨#[], args, []⟩).memory :=
  laidMetH_of_parts3 (fuel := 8) (laidMet_of_run' 8 (by kernel_rfl) (by kernel_rfl)) (by kernel_rfl) (by kernel_rfl)
theorem gl_ofP {W : World} (h : laidMetH Tryz.prog laidP W) : GOKw (fun b => b < W.heap.size) W := by
  rw [MakeChecks.laidMetH_plain _ _ _ (by kernel_rfl)] at h
  have h1 := Lib.laidMet.reads h (n := "loop.example/strideviews/impl.actCounts") (d := Lib.tabData .i64 [1, 3, 4, 1, 2, 2, 1, 1]) (List.mem_cons_of_mem _ (List.mem_cons_of_mem _ (List.mem_cons_of_mem _ (List.mem_cons_self ..))))
  have h2 := Lib.laidMet.reads h (n := "internal/strconv.uint64pow10") (d := Lib.tabData .u64 Lib.pow10Tab) (List.mem_cons_of_mem _ (List.mem_cons_of_mem _ (List.mem_cons_self ..)))
  exact glGOK ⟨varOK_tab (g := 1) (by kernel_rfl) (by kernel_rfl) Tryz.underlying111 Tryz.underlying3 (by kernel_rfl) (by kernel_rfl) h1, varOK_tab (g := 3) (by kernel_rfl) (by kernel_rfl) Tryz.underlying170 Tryz.underlying153 (by kernel_rfl) (by kernel_rfl) h2⟩
theorem varsP : ∀ n ∈ ["loop.example/strideviews/impl.actCounts"], VarRd Tryz.prog n := by
  intro n hn
  obtain rfl := List.mem_singleton.1 hn
  exact ⟨1, 111, by kernel_rfl, by kernel_rfl, by kernel_rfl, by decide +kernel⟩
end Go.Proofs.YtkmnepmnjpdpkaaGreatDoor
namespace Go.Proofs.YtkmnepmnjpdpkaaGreatDoor
open Go Go.Ev Go.RowKit Go.Ev.Enc Go.Pl Go.WideShapes Go.ChangeShapes
set_option maxRecDepth 100000
theorem cpX : CpX := fun B h => isp_copyBufferX (sndA.hide 130) rfl B h
theorem filI : FilI := fun m v y h => o_FillViewI sndA rfl rfl rfl m v y h
theorem stoI : StoI := fun m v V e hV => o_storeViewI sndA rfl m v V e hV
theorem cpyI : CpyI := fun m a b h => o_CopyViewI (sndA.hide 165) rfl rfl rfl m a b h stoI
theorem sliX : SliX := fun v d s h1 h2 hd => isp_sliceDimX ((sndA.hide 130).hide 193) rfl rfl rfl rfl v d s h1 h2 hd
theorem sliDX : SliDX := fun v d s h => isp_SliceDimX (sndA.hide 162) rfl rfl rfl v d s h sliX
theorem exvX : ExvX := fun B v h1 h2 => isp_ExportViewX (((sndA.hide 129).hide 130).hide 99) rfl rfl rfl rfl rfl rfl B v h1 h2 cpX
theorem expX : ExpX := fun B id d s h => isp_ExportPartX (((sndA.hide 131).hide 129).hide 99) rfl rfl rfl rfl B id d s h cpX sliDX
theorem filX : FilX := fun B id x h => isp_FillExportX ((sndA.hide 132).hide 99) rfl rfl rfl B id x h cpX filI
theorem cpyX : CpyX := fun B a b h => isp_CopyExportX ((sndA.hide 133).hide 99) rfl rfl rfl B a b h cpX cpyI
theorem relX : RelX := fun B id h => isp_ReleaseExportX (sndA.hide 99) rfl rfl rfl B id h cpX
theorem rszX : RszX := fun B n h => isp_ResizeBufferX (sndA.hide 99) rfl rfl rfl rfl B n h cpX
theorem appX : AppX := appX_of (((((((sndA.hide 91).hide 92).hide 93).hide 94).hide 95).hide 96).hide 99) rfl rfl rfl rfl rfl rfl rfl rfl rfl rfl cpX rszX exvX expX filX cpyX relX
theorem mkE : MkE := fun xl k j L a b c d e f => isp_markExportS sndA rfl xl k j L a b c d e f
end Go.Proofs.YtkmnepmnjpdpkaaGreatDoor
namespace Go.Proofs.YtkmnepmnjpdpkaaGreatDoor
open Go Go.Ev Go.RowKit Go.Ev.Enc Go.Pl Go.WideShapes Go.ChangeShapes
set_option maxRecDepth 100000
theorem RP_app {w : World} {A B : List AV} {c d : List Value} (h1 : A.length = c.length ∧ ∀ j, j < c.length → RIn w (A.getD j .any) (c.getD j undef)) (h2 : B.length = d.length ∧ ∀ j, j < d.length → RIn w (B.getD j .any) (d.getD j undef)) :
    (A ++ B).length = (c ++ d).length ∧ ∀ j, j < (c ++ d).length → RIn w ((A ++ B).getD j .any) ((c ++ d).getD j undef) := by
  refine ⟨by rw [List.length_append, List.length_append, h1.1, h2.1], fun j hj => ?_⟩
  rw [List.length_append] at hj
  by_cases hc : j < c.length
  · have := h1.2 j hc
    rw [List.getD_eq_getElem?_getD, List.getD_eq_getElem?_getD] at this ⊢
    rw [List.getElem?_append_left (by rw [h1.1]; exact hc), List.getElem?_append_left hc]
    exact this
  · have := h2.2 (j - c.length) (by omega)
    rw [List.getD_eq_getElem?_getD, List.getD_eq_getElem?_getD] at this ⊢
    rw [List.getElem?_append_right (by rw [h1.1]; omega), List.getElem?_append_right (by omega), h1.1]
    exact this
theorem opens_3 {P : Program} {t : TypeId} {f0 f1 f2 : Field} {α β γ δ : Type} [Enc α] [Enc β] [Enc γ] [Enc δ] {S : α → Prop} {T : β → Prop} {U : γ → Prop} {V : δ → Prop} (k0 k1 k2 : Nat) (ht : P.underlying t = some (.struct #[f0, f1, f2]))
    (hsz : P.cellsOf t = k0 + k1 + k2) (o0 : f0.offset = 0) (o1 : f1.offset = k0) (o2 : f2.offset = k0 + k1) (c0 : P.cellsOf f0.type = k0) (c1 : P.cellsOf f1.type = k1) (c2 : P.cellsOf f2.type = k2)
    (h0 : Opens P f0.type (α := α) S) (h1 : Opens P f1.type (α := β) T) (h2 : Opens P f2.type (α := γ) U)
    (hmk : ∀ a b c, S a → T b → U c → ∃ d : δ, V d ∧ (Enc.enc 0 d : AV).cells = (Enc.enc 0 a : AV).cells ++ (Enc.enc 0 b : AV).cells ++ (Enc.enc 0 c : AV).cells) : Opens P t (α := δ) V := by
  intro H enc w base sp held fuel cs x h
  obtain ⟨xs, n, _, rfl, hl, hlen, hf⟩ := DataW.trod_struct ht h
  have hlen' : xs.length = 3 := hlen
  match xs, hlen' with
  | [y0, y1, y2], _ =>
    have g0 := hf 0 f0 rfl
    have g1 := hf 1 f1 rfl
    have g2 := hf 2 f2 rfl
    rw [o0, c0] at g0
    rw [o1, c1] at g1
    rw [o2, c2] at g2
    obtain ⟨a, s0, r0⟩ := h0 H enc w base sp held n _ _ g0
    obtain ⟨b, s1, r1⟩ := h1 H enc w base sp held n _ _ g1
    obtain ⟨c, s2, r2⟩ := h2 H enc w base sp held n _ _ g2
    obtain ⟨d, v, hd⟩ := hmk a b c s0 s1 s2
    refine ⟨d, v, ?_⟩
    rw [hsz] at hl
    have e : cs = (cs.drop 0).take k0 ++ (cs.drop k0).take k1 ++ (cs.drop (k0 + k1)).take k2 := by
      rw [List.drop_zero, ← List.take_add, ← List.take_add, List.take_of_length_le (by omega)]
    have key := RP_app (RP_app r0 r1) r2
    unfold RCells
    rw [hd, e]
    exact key
theorem op_vi : Opens Tryz.prog 126 (α := Vi) (fun v => allS i64B v.sh ∧ allS i64B v.st) :=
  opens_3 1 1 1 Tryz.underlying126 (cellsOf_of Tryz.tsize126) rfl rfl rfl (cellsOf_of Tryz.tsize3) (cellsOf_of Tryz.tsize24) (cellsOf_of Tryz.tsize24) op_int op_ints op_ints fun a b c _ h1 h2 => ⟨⟨a, b, c⟩, ⟨h1, h2⟩, rfl⟩
theorem op_ex : Opens Tryz.prog 128 (α := Ex) (fun x => allS i64B x.v.sh ∧ allS i64B x.v.st) :=
  opens_3 1 3 1 Tryz.underlying128 (cellsOf_of Tryz.tsize128) rfl rfl rfl (cellsOf_of Tryz.tsize3) (cellsOf_of Tryz.tsize126) (cellsOf_of Tryz.tsize4) op_int op_vi (opens_bool Tryz.underlying4) fun a b c _ h _ => ⟨⟨a, b, c⟩, h, rfl⟩
theorem op_exs : Opens Tryz.prog 58 (α := List Ex) (allS fun x => allS i64B x.v.sh ∧ allS i64B x.v.st) := opens_list Tryz.underlying58 5 (cellsOf_of Tryz.tsize128) (by omega) op_ex
theorem op_bf : Opens Tryz.prog 60 (α := Bf) (fun B => allS i64B B.c ∧ allS (fun x : Ex => allS i64B x.v.sh ∧ allS i64B x.v.st) B.e) :=
  opens_pair Tryz.underlying60 (cellsOf_of Tryz.tsize60) rfl rfl (cellsOf_of Tryz.tsize24) (cellsOf_of Tryz.tsize58) op_ints op_exs fun a b h1 h2 => ⟨⟨a, b⟩, ⟨h1, h2⟩, rfl⟩
theorem op_ac : Opens Tryz.prog 61 (α := Ac) (fun a => allS i64B a.n) :=
  opens_pair Tryz.underlying61 (cellsOf_of Tryz.tsize61) rfl rfl (cellsOf_of Tryz.tsize3) (cellsOf_of Tryz.tsize24) op_int op_ints fun a b _ h2 => ⟨⟨a, b⟩, h2, rfl⟩
theorem big_of {B : Bf} (h : allS i64B B.c ∧ allS (fun x : Ex => allS i64B x.v.sh ∧ allS i64B x.v.st) B.e) : bfBig B := by
  obtain ⟨h1, h2, h3⟩ := h
  refine ⟨by have := h1.1; omega, by omega, fun k hk => ?_⟩
  rw [toTs_len] at hk
  rw [toTs_at hk]
  obtain ⟨a1, a2⟩ := h3 _ (mem_L (d := ex0) hk)
  exact ⟨by have := a1.1; show (B.e.getD k ex0).v.sh.length < _; omega, by have := a2.1; show (B.e.getD k ex0).v.st.length < _; omega⟩
theorem toVX : ToVX := fun v h => isp_toViewX (sndA.hide 87) rfl v h
theorem toEX : ToEX := fun x h => isp_toExportX (sndA.hide 158) rfl x h toVX
theorem toESX : ToESX := fun l h hv => isp_toExportSX (sndA.hide 127) rfl l h hv toEX
theorem toBX : ToBX := fun B h => isp_toBufferX ((sndA.hide 87).hide 88) rfl rfl B h toESX
theorem toAX : ToAX := fun k n h => isp_toActX (sndA.hide 87) rfl ⟨k, n⟩ h
theorem apX : ApX := fun B k n h1 h2 => isp_ApplyActX (sndA.hide 53) rfl rfl rfl B k n h1 h2 appX
theorem mkBX : MkBX := fun B k i be js xl L h hB hk => isp_markBuffer sndA rfl rfl B k i be js xl L h hB hk mkE
theorem mkBZX : MkBZX := fun k L => isp_markBufferZ sndA rfl rfl k L
theorem mkAX : MkAX := fun q l k b L h1 h2 h3 => isp_markActB sndA rfl q l k b L h1 h2 h3
theorem spec_toBD : ∀ a r, F1 gCpB a = some r → CSpec Tryz.prog 46 a r := by
  refine F1_spec ?_
  intro B r hr
  obtain ⟨h, rfl⟩ := gd_some hr
  exact (toBX B h).cspec (own B) fun r N hr => hr.exp1
theorem spec_toAD : ∀ a r, F1 gToA a = some r → CSpec Tryz.prog 47 a r := by
  refine F1_spec ?_
  rintro ⟨k, n⟩ r hr
  obtain ⟨h, rfl⟩ := gd_some hr
  refine (toAX k n h).cspec (own _) ?_
  rintro r N ⟨c, rfl, hc⟩
  show AV.agg [i64 k, expC 1 N (.sl c n.length 0 n.length n.length)] = .agg [i64 k, ints 1 n]
  rw [ec_sl, ee_sl, hc]
  simp [expS, expE, stepC, ints, Function.comp_def, List.take_of_length_le]
theorem spec_AppD : ∀ a r, F2 gAppX a = some r → CSpec Tryz.prog 20 a r := by
  refine F2_spec ?_
  rintro B ⟨k, n⟩ r hr
  obtain ⟨⟨h1, h2⟩, rfl⟩ := gd_some hr
  exact (apX B k n h1 h2).cspec (own (btP _)) fun r N hr => hr.exp1
theorem sndQ1 : Sound Tryz.prog (upd (upd sgA 29 (F2 gAppX)) 46 (F1 gCpB)) := sndB.add can_toB spec_toBD
theorem sndQ2 : Sound Tryz.prog (upd (upd (upd sgA 29 (F2 gAppX)) 46 (F1 gCpB)) 47 (F1 gToA)) := sndQ1.add can_toA spec_toAD
theorem sndQ3 : Sound Tryz.prog (upd (upd (upd (upd sgA 29 (F2 gAppX)) 46 (F1 gCpB)) 47 (F1 gToA)) 20 (F2 gAppX)) := sndQ2.add can_ApplyActI spec_AppD
end Go.Proofs.YtkmnepmnjpdpkaaGreatDoor
