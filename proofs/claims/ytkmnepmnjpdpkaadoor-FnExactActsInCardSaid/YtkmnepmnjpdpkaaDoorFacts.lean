/- Contracts of functions that the laws of this seat call. -/
import Derived.Test.YtkmnepmnjpdpkaaDoorEvB
import Derived.Test.YtkmnepmnjpdpkaaDoorEvC
import Derived.Lib.ItoaMem
import Derived.Test.YtkmnepmnjpdpkaaDoorProg
import Derived.KernelRfl
set_option linter.all false
namespace Go.Proofs.YtkmnepmnjpdpkaaDoor
open Go Go.Ev Go.RowKit
def cntA : List AV := [.int .i64 1, .int .i64 3, .int .i64 4, .int .i64 1, .int .i64 2, .int .i64 2, .int .i64 1, .int .i64 1]
def cntV : List Value := [.int .i64 1, .int .i64 3, .int .i64 4, .int .i64 1, .int .i64 2, .int .i64 2, .int .i64 1, .int .i64 1]
def nmA : List AV := [.str ⟨#[115, 105, 122, 101]⟩, .str ⟨#[118, 105, 101, 119]⟩, .str ⟨#[112, 97, 114, 116]⟩, .str ⟨#[102, 108, 105, 112]⟩, .str ⟨#[102, 105, 108, 108]⟩, .str ⟨#[99, 111, 112, 121]⟩, .str ⟨#[108, 111, 97, 100]⟩, .str ⟨#[102, 114, 101, 101]⟩]
def nmV : List Value := [.string ⟨#[115, 105, 122, 101]⟩, .string ⟨#[118, 105, 101, 119]⟩, .string ⟨#[112, 97, 114, 116]⟩, .string ⟨#[102, 108, 105, 112]⟩, .string ⟨#[102, 105, 108, 108]⟩, .string ⟨#[99, 111, 112, 121]⟩, .string ⟨#[108, 111, 97, 100]⟩, .string ⟨#[102, 114, 101, 101]⟩]
def glOK (I : Nat → Prop) (w : World) : Prop := VarOK Tryd.prog I w "loop.example/strideviews/impl.actCounts" (fun cs => cs = cntV.toArray) ∧ VarOK Tryd.prog I w "internal/strconv.uint64pow10" (fun cs => cs = (Lib.pow10Tab.map fun z => Value.int .u64 z).toArray) ∧ VarOK Tryd.prog I w "loop.example/strideviews/impl.actNames" (fun cs => cs = nmV.toArray) ∧ VarOK Tryd.prog I w "internal/bytealg.MaxLen" (fun cs => ∃ m : Int, cs[0]? = some (.int .i64 m)) ∧ VarOK Tryd.prog I w "strconv.ErrSyntax" (fun cs => ∃ t p, cs[0]? = some (.iface t p)) ∧ VarOK Tryd.prog I w "strconv.ErrRange" (fun cs => ∃ t p, cs[0]? = some (.iface t p))
def glV (n : Nat) : AV := if n = 0 then .dptr nmA 0 else if n = 1 then .dptr cntA 0 else .any
instance : Gl := ⟨glV, glOK, fun _ _ _ _ ⟨h0, h1, h2, h3, h4, h5⟩ hI hw => ⟨h0.mono hI hw, h1.mono hI hw, h2.mono hI hw, h3.mono hI hw, h4.mono hI hw, h5.mono hI hw⟩⟩
theorem gl_cnt : Gl.g 1 = AV.dptr cntA 0 := rfl
attribute [go_sem] gl_cnt
theorem gl_nm : Gl.g 0 = AV.dptr nmA 0 := rfl
attribute [go_sem] gl_nm
theorem okTab {I : Nat → Prop} {w : World} (h : Gl.ok I w) : Lib.TabIs Tryd.prog w "internal/strconv.uint64pow10" .u64 Lib.pow10Tab := (show glOK I w from h).2.1.tab
theorem okMax {I : Nat → Prop} {w : World} (h : Gl.ok I w) : ∃ m : Int, w.cell? ⟨4, 0, none⟩ = some (.int .i64 m) := by
  obtain ⟨-, cs, ⟨m, hm⟩, hc⟩ := (show glOK I w from h).2.2.2.1.cell (g := 4) (by kernel_rfl)
  exact ⟨m, (hc 0).trans hm⟩
theorem okSyn {I : Nat → Prop} {w : World} (h : Gl.ok I w) : ∃ ev, w.cell? ⟨2, 0, none⟩ = some ev ∧ (ev = .nilIface ∨ ∃ te pe, ev = .iface te pe) := by
  obtain ⟨-, cs, ⟨t, p, hm⟩, hc⟩ := (show glOK I w from h).2.2.2.2.1.cell (g := 2) (by kernel_rfl)
  exact ⟨_, (hc 0).trans hm, .inr ⟨t, p, rfl⟩⟩
theorem okRan {I : Nat → Prop} {w : World} (h : Gl.ok I w) : ∃ ev, w.cell? ⟨3, 0, none⟩ = some ev ∧ (ev = .nilIface ∨ ∃ te pe, ev = .iface te pe) := by
  obtain ⟨-, cs, ⟨t, p, hm⟩, hc⟩ := (show glOK I w from h).2.2.2.2.2.cell (g := 3) (by kernel_rfl)
  exact ⟨_, (hc 0).trans hm, .inr ⟨t, p, rfl⟩⟩
theorem glGOK {I : Nat → Prop} {w : World} (h : glOK I w) : GOKw I w := by
  refine ⟨fun g => ?_, h⟩
  show R I _ _ w (glV g) _
  unfold glV
  split
  · rename_i e; subst e
    refine h.2.2.1.dptr (by kernel_rfl) rfl fun i hi => ?_
    have hi : i < 8 := hi
    match i, hi with
    | 0, _ => exact .str _
    | 1, _ => exact .str _
    | 2, _ => exact .str _
    | 3, _ => exact .str _
    | 4, _ => exact .str _
    | 5, _ => exact .str _
    | 6, _ => exact .str _
    | 7, _ => exact .str _
  split
  · rename_i e; subst e
    refine h.1.dptr (by kernel_rfl) rfl fun i hi => ?_
    have hi : i < 8 := hi
    match i, hi with
    | 0, _ => exact .int _ _
    | 1, _ => exact .int _ _
    | 2, _ => exact .int _ _
    | 3, _ => exact .int _ _
    | 4, _ => exact .int _ _
    | 5, _ => exact .int _ _
    | 6, _ => exact .int _ _
    | 7, _ => exact .int _ _
  · exact .any _
theorem Tryd.tsize2 : tsize Tryd.prog 2 = some 1 := by kernel_rfl
theorem Tryd.tagg2 : tagg Tryd.prog 2 = some false := by kernel_rfl
theorem Tryd.tbytes2 : tbytes Tryd.prog 2 = some 8 := by kernel_rfl
theorem Tryd.tzero2 : tzero Tryd.prog 2 = some (.int .i64 (0)) := by kernel_rfl
theorem Tryd.tsize3 : tsize Tryd.prog 3 = some 1 := by kernel_rfl
theorem Tryd.tagg3 : tagg Tryd.prog 3 = some false := by kernel_rfl
theorem Tryd.tbytes3 : tbytes Tryd.prog 3 = some 8 := by kernel_rfl
theorem Tryd.tzero3 : tzero Tryd.prog 3 = some (.int .i64 (0)) := by kernel_rfl
theorem Tryd.tsize4 : tsize Tryd.prog 4 = some 1 := by kernel_rfl
theorem Tryd.tagg4 : tagg Tryd.prog 4 = some false := by kernel_rfl
theorem Tryd.tbytes4 : tbytes Tryd.prog 4 = some 1 := by kernel_rfl
theorem Tryd.tzero4 : tzero Tryd.prog 4 = some (.bool false) := by kernel_rfl
theorem Tryd.tsize5 : tsize Tryd.prog 5 = some 1 := by kernel_rfl
theorem Tryd.tagg5 : tagg Tryd.prog 5 = some false := by kernel_rfl
theorem Tryd.tbytes5 : tbytes Tryd.prog 5 = some 1 := by kernel_rfl
theorem Tryd.tzero5 : tzero Tryd.prog 5 = some (.int .u8 (0)) := by kernel_rfl
theorem Tryd.tsize9 : tsize Tryd.prog 9 = some 1 := by kernel_rfl
theorem Tryd.tagg9 : tagg Tryd.prog 9 = some false := by kernel_rfl
theorem Tryd.tbytes9 : tbytes Tryd.prog 9 = some 16 := by kernel_rfl
theorem Tryd.tzero9 : tzero Tryd.prog 9 = some (.str ByteArray.empty) := by kernel_rfl
theorem Tryd.tsize21 : tsize Tryd.prog 21 = some 1 := by kernel_rfl
theorem Tryd.tagg21 : tagg Tryd.prog 21 = some false := by kernel_rfl
theorem Tryd.tbytes21 : tbytes Tryd.prog 21 = some 4 := by kernel_rfl
theorem Tryd.tzero21 : tzero Tryd.prog 21 = some (.int .i32 (0)) := by kernel_rfl
theorem Tryd.tsize22 : tsize Tryd.prog 22 = some 1 := by kernel_rfl
theorem Tryd.tagg22 : tagg Tryd.prog 22 = some false := by kernel_rfl
theorem Tryd.tbytes22 : tbytes Tryd.prog 22 = some 24 := by kernel_rfl
theorem Tryd.tzero22 : tzero Tryd.prog 22 = some (.nilS) := by kernel_rfl
theorem Tryd.tsize23 : tsize Tryd.prog 23 = some 2 := by kernel_rfl
theorem Tryd.tagg23 : tagg Tryd.prog 23 = some true := by kernel_rfl
theorem Tryd.tbytes23 : tbytes Tryd.prog 23 = some 32 := by kernel_rfl
theorem Tryd.tzero23 : tzero Tryd.prog 23 = some (.agg [.int .i64 (0), .nilS]) := by kernel_rfl
theorem Tryd.fok23 : fieldsOK Tryd.prog 23 = true := by kernel_rfl
theorem Tryd.tsize24 : tsize Tryd.prog 24 = some 2 := by kernel_rfl
theorem Tryd.tagg24 : tagg Tryd.prog 24 = some true := by kernel_rfl
theorem Tryd.tbytes24 : tbytes Tryd.prog 24 = some 32 := by kernel_rfl
theorem Tryd.tzero24 : tzero Tryd.prog 24 = some (.agg [.int .i64 (0), .nilS]) := by kernel_rfl
theorem Tryd.fok24 : fieldsOK Tryd.prog 24 = true := by kernel_rfl
theorem Tryd.tsize30 : tsize Tryd.prog 30 = some 1 := by kernel_rfl
theorem Tryd.tagg30 : tagg Tryd.prog 30 = some false := by kernel_rfl
theorem Tryd.tbytes30 : tbytes Tryd.prog 30 = some 24 := by kernel_rfl
theorem Tryd.tzero30 : tzero Tryd.prog 30 = some (.nilS) := by kernel_rfl
theorem Tryd.tsize36 : tsize Tryd.prog 36 = some 1 := by kernel_rfl
theorem Tryd.tagg36 : tagg Tryd.prog 36 = some false := by kernel_rfl
theorem Tryd.tbytes36 : tbytes Tryd.prog 36 = some 24 := by kernel_rfl
theorem Tryd.tzero36 : tzero Tryd.prog 36 = some (.nilS) := by kernel_rfl
theorem Tryd.tsize44 : tsize Tryd.prog 44 = some 8 := by kernel_rfl
theorem Tryd.tagg44 : tagg Tryd.prog 44 = some true := by kernel_rfl
theorem Tryd.tbytes44 : tbytes Tryd.prog 44 = some 128 := by kernel_rfl
theorem Tryd.tzero44 : tzero Tryd.prog 44 = some (.agg [.str ByteArray.empty, .str ByteArray.empty, .str ByteArray.empty, .str ByteArray.empty, .str ByteArray.empty, .str ByteArray.empty, .str ByteArray.empty, .str ByteArray.empty]) := by kernel_rfl
theorem Tryd.tsize57 : tsize Tryd.prog 57 = some 8 := by kernel_rfl
theorem Tryd.tagg57 : tagg Tryd.prog 57 = some true := by kernel_rfl
theorem Tryd.tbytes57 : tbytes Tryd.prog 57 = some 64 := by kernel_rfl
theorem Tryd.tzero57 : tzero Tryd.prog 57 = some (.agg [.int .i64 (0), .int .i64 (0), .int .i64 (0), .int .i64 (0), .int .i64 (0), .int .i64 (0), .int .i64 (0), .int .i64 (0)]) := by kernel_rfl
theorem Tryd.tsize63 : tsize Tryd.prog 63 = some 1 := by kernel_rfl
theorem Tryd.tagg63 : tagg Tryd.prog 63 = some false := by kernel_rfl
theorem Tryd.tbytes63 : tbytes Tryd.prog 63 = some 24 := by kernel_rfl
theorem Tryd.tzero63 : tzero Tryd.prog 63 = some (.nilS) := by kernel_rfl
theorem Tryd.tsize66 : tsize Tryd.prog 66 = some 1 := by kernel_rfl
theorem Tryd.tagg66 : tagg Tryd.prog 66 = some false := by kernel_rfl
theorem Tryd.tbytes66 : tbytes Tryd.prog 66 = some 8 := by kernel_rfl
theorem Tryd.tzero66 : tzero Tryd.prog 66 = some (.nilP) := by kernel_rfl
theorem Tryd.tsize75 : tsize Tryd.prog 75 = some 1 := by kernel_rfl
theorem Tryd.tagg75 : tagg Tryd.prog 75 = some false := by kernel_rfl
theorem Tryd.tbytes75 : tbytes Tryd.prog 75 = some 8 := by kernel_rfl
theorem Tryd.tzero75 : tzero Tryd.prog 75 = some (.int .u64 (0)) := by kernel_rfl
theorem Tryd.tsize78 : tsize Tryd.prog 78 = some 1 := by kernel_rfl
theorem Tryd.tagg78 : tagg Tryd.prog 78 = some false := by kernel_rfl
theorem Tryd.tbytes78 : tbytes Tryd.prog 78 = some 8 := by kernel_rfl
theorem Tryd.tzero78 : tzero Tryd.prog 78 = some (.int .u64 (0)) := by kernel_rfl
theorem Tryd.tsize80 : tsize Tryd.prog 80 = some 3 := by kernel_rfl
theorem Tryd.tagg80 : tagg Tryd.prog 80 = some true := by kernel_rfl
theorem Tryd.tbytes80 : tbytes Tryd.prog 80 = some 48 := by kernel_rfl
theorem Tryd.tzero80 : tzero Tryd.prog 80 = some (.agg [.str ByteArray.empty, .str ByteArray.empty, .ifc false]) := by kernel_rfl
theorem Tryd.fok80 : fieldsOK Tryd.prog 80 = true := by kernel_rfl
theorem Tryd.tsize81 : tsize Tryd.prog 81 = some 3 := by kernel_rfl
theorem Tryd.tagg81 : tagg Tryd.prog 81 = some true := by kernel_rfl
theorem Tryd.tbytes81 : tbytes Tryd.prog 81 = some 48 := by kernel_rfl
theorem Tryd.tzero81 : tzero Tryd.prog 81 = some (.agg [.str ByteArray.empty, .str ByteArray.empty, .ifc false]) := by kernel_rfl
theorem Tryd.fok81 : fieldsOK Tryd.prog 81 = true := by kernel_rfl
theorem Tryd.tsize83 : tsize Tryd.prog 83 = some 24 := by kernel_rfl
theorem Tryd.tagg83 : tagg Tryd.prog 83 = some true := by kernel_rfl
theorem Tryd.tbytes83 : tbytes Tryd.prog 83 = some 24 := by kernel_rfl
theorem Tryd.tzero83 : tzero Tryd.prog 83 = some (.agg [.int .u8 (0), .int .u8 (0), .int .u8 (0), .int .u8 (0), .int .u8 (0), .int .u8 (0), .int .u8 (0), .int .u8 (0), .int .u8 (0), .int .u8 (0), .int .u8 (0), .int .u8 (0), .int .u8 (0), .int .u8 (0), .int .u8 (0), .int .u8 (0), .int .u8 (0), .int .u8 (0), .int .u8 (0), .int .u8 (0), .int .u8 (0), .int .u8 (0), .int .u8 (0), .int .u8 (0)]) := by kernel_rfl
theorem Tryd.tsize89 : tsize Tryd.prog 89 = some 1 := by kernel_rfl
theorem Tryd.tagg89 : tagg Tryd.prog 89 = some false := by kernel_rfl
theorem Tryd.tbytes89 : tbytes Tryd.prog 89 = some 8 := by kernel_rfl
theorem Tryd.tzero89 : tzero Tryd.prog 89 = some (.nilP) := by kernel_rfl
theorem Tryd.tsize90 : tsize Tryd.prog 90 = some 1 := by kernel_rfl
theorem Tryd.tagg90 : tagg Tryd.prog 90 = some false := by kernel_rfl
theorem Tryd.tbytes90 : tbytes Tryd.prog 90 = some 8 := by kernel_rfl
theorem Tryd.tzero90 : tzero Tryd.prog 90 = some (.nilP) := by kernel_rfl
theorem Tryd.tsize91 : tsize Tryd.prog 91 = some 1 := by kernel_rfl
theorem Tryd.tagg91 : tagg Tryd.prog 91 = some true := by kernel_rfl
theorem Tryd.tbytes91 : tbytes Tryd.prog 91 = some 16 := by kernel_rfl
theorem Tryd.tzero91 : tzero Tryd.prog 91 = some (.agg [.str ByteArray.empty]) := by kernel_rfl
theorem Tryd.fok91 : fieldsOK Tryd.prog 91 = true := by kernel_rfl
theorem Tryd.tsize92 : tsize Tryd.prog 92 = some 1 := by kernel_rfl
theorem Tryd.tagg92 : tagg Tryd.prog 92 = some true := by kernel_rfl
theorem Tryd.tbytes92 : tbytes Tryd.prog 92 = some 16 := by kernel_rfl
theorem Tryd.tzero92 : tzero Tryd.prog 92 = some (.agg [.str ByteArray.empty]) := by kernel_rfl
theorem Tryd.fok92 : fieldsOK Tryd.prog 92 = true := by kernel_rfl
theorem Tryd.tsize94 : tsize Tryd.prog 94 = some 20 := by kernel_rfl
theorem Tryd.tagg94 : tagg Tryd.prog 94 = some true := by kernel_rfl
theorem Tryd.tbytes94 : tbytes Tryd.prog 94 = some 160 := by kernel_rfl
theorem Tryd.tzero94 : tzero Tryd.prog 94 = some (.agg [.int .u64 (0), .int .u64 (0), .int .u64 (0), .int .u64 (0), .int .u64 (0), .int .u64 (0), .int .u64 (0), .int .u64 (0), .int .u64 (0), .int .u64 (0), .int .u64 (0), .int .u64 (0), .int .u64 (0), .int .u64 (0), .int .u64 (0), .int .u64 (0), .int .u64 (0), .int .u64 (0), .int .u64 (0), .int .u64 (0)]) := by kernel_rfl
theorem Tryd.tsize95 : tsize Tryd.prog 95 = some 1 := by kernel_rfl
theorem Tryd.tagg95 : tagg Tryd.prog 95 = some false := by kernel_rfl
theorem Tryd.tbytes95 : tbytes Tryd.prog 95 = some 4 := by kernel_rfl
theorem Tryd.tzero95 : tzero Tryd.prog 95 = some (.int .u32 (0)) := by kernel_rfl
theorem Tryd.tsize96 : tsize Tryd.prog 96 = some 65 := by kernel_rfl
theorem Tryd.tagg96 : tagg Tryd.prog 96 = some true := by kernel_rfl
theorem Tryd.tbytes96 : tbytes Tryd.prog 96 = some 65 := by kernel_rfl
theorem Tryd.tzero96 : tzero Tryd.prog 96 = some (.agg [.int .u8 (0), .int .u8 (0), .int .u8 (0), .int .u8 (0), .int .u8 (0), .int .u8 (0), .int .u8 (0), .int .u8 (0), .int .u8 (0), .int .u8 (0), .int .u8 (0), .int .u8 (0), .int .u8 (0), .int .u8 (0), .int .u8 (0), .int .u8 (0), .int .u8 (0), .int .u8 (0), .int .u8 (0), .int .u8 (0), .int .u8 (0), .int .u8 (0), .int .u8 (0), .int .u8 (0), .int .u8 (0), .int .u8 (0), .int .u8 (0), .int .u8 (0), .int .u8 (0), .int .u8 (0), .int .u8 (0), .int .u8 (0), .int .u8 (0), .int .u8 (0), .int .u8 (0), .int .u8 (0), .int .u8 (0), .int .u8 (0), .int .u8 (0), .int .u8 (0), .int .u8 (0), .int .u8 (0), .int .u8 (0), .int .u8 (0), .int .u8 (0), .int .u8 (0), .int .u8 (0), .int .u8 (0), .int .u8 (0), .int .u8 (0), .int .u8 (0), .int .u8 (0), .int .u8 (0), .int .u8 (0), .int .u8 (0), .int .u8 (0), .int .u8 (0), .int .u8 (0), .int .u8 (0), .int .u8 (0), .int .u8 (0), .int .u8 (0), .int .u8 (0), .int .u8 (0), .int .u8 (0)]) := by kernel_rfl
theorem Tryd.tsize100 : tsize Tryd.prog 100 = some 256 := by kernel_rfl
theorem Tryd.tagg100 : tagg Tryd.prog 100 = some true := by kernel_rfl
theorem Tryd.tbytes100 : tbytes Tryd.prog 100 = some 256 := by kernel_rfl
theorem Tryd.tzero100 : tzero Tryd.prog 100 = some (.agg [.int .u8 (0), .int .u8 (0), .int .u8 (0), .int .u8 (0), .int .u8 (0), .int .u8 (0), .int .u8 (0), .int .u8 (0), .int .u8 (0), .int .u8 (0), .int .u8 (0), .int .u8 (0), .int .u8 (0), .int .u8 (0), .int .u8 (0), .int .u8 (0), .int .u8 (0), .int .u8 (0), .int .u8 (0), .int .u8 (0), .int .u8 (0), .int .u8 (0), .int .u8 (0), .int .u8 (0), .int .u8 (0), .int .u8 (0), .int .u8 (0), .int .u8 (0), .int .u8 (0), .int .u8 (0), .int .u8 (0), .int .u8 (0), .int .u8 (0), .int .u8 (0), .int .u8 (0), .int .u8 (0), .int .u8 (0), .int .u8 (0), .int .u8 (0), .int .u8 (0), .int .u8 (0), .int .u8 (0), .int .u8 (0), .int .u8 (0), .int .u8 (0), .int .u8 (0), .int .u8 (0), .int .u8 (0), .int .u8 (0), .int .u8 (0), .int .u8 (0), .int .u8 (0), .int .u8 (0), .int .u8 (0), .int .u8 (0), .int .u8 (0), .int .u8 (0), .int .u8 (0), .int .u8 (0), .int .u8 (0), .int .u8 (0), .int .u8 (0), .int .u8 (0), .int .u8 (0), .int .u8 (0), .int .u8 (0), .int .u8 (0), .int .u8 (0), .int .u8 (0), .int .u8 (0), .int .u8 (0), .int .u8 (0), .int .u8 (0), .int .u8 (0), .int .u8 (0), .int .u8 (0), .int .u8 (0), .int .u8 (0), .int .u8 (0), .int .u8 (0), .int .u8 (0), .int .u8 (0), .int .u8 (0), .int .u8 (0), .int .u8 (0), .int .u8 (0), .int .u8 (0), .int .u8 (0), .int .u8 (0), .int .u8 (0), .int .u8 (0), .int .u8 (0), .int .u8 (0), .int .u8 (0), .int .u8 (0), .int .u8 (0), .int .u8 (0), .int .u8 (0), .int .u8 (0), .int .u8 (0), .int .u8 (0), .int .u8 (0), .int .u8 (0), .int .u8 (0), .int .u8 (0), .int .u8 (0), .int .u8 (0), .int .u8 (0), .int .u8 (0), .int .u8 (0), .int .u8 (0), .int .u8 (0), .int .u8 (0), .int .u8 (0), .int .u8 (0), .int .u8 (0), .int .u8 (0), .int .u8 (0), .int .u8 (0), .int .u8 (0), .int .u8 (0), .int .u8 (0), .int .u8 (0), .int .u8 (0), .int .u8 (0), .int .u8 (0), .int .u8 (0), .int .u8 (0), .int .u8 (0), .int .u8 (0), .int .u8 (0), .int .u8 (0), .int .u8 (0), .int .u8 (0), .int .u8 (0), .int .u8 (0), .int .u8 (0), .int .u8 (0), .int .u8 (0), .int .u8 (0), .int .u8 (0), .int .u8 (0), .int .u8 (0), .int .u8 (0), .int .u8 (0), .int .u8 (0), .int .u8 (0), .int .u8 (0), .int .u8 (0), .int .u8 (0), .int .u8 (0), .int .u8 (0), .int .u8 (0), .int .u8 (0), .int .u8 (0), .int .u8 (0), .int .u8 (0), .int .u8 (0), .int .u8 (0), .int .u8 (0), .int .u8 (0), .int .u8 (0), .int .u8 (0), .int .u8 (0), .int .u8 (0), .int .u8 (0), .int .u8 (0), .int .u8 (0), .int .u8 (0), .int .u8 (0), .int .u8 (0), .int .u8 (0), .int .u8 (0), .int .u8 (0), .int .u8 (0), .int .u8 (0), .int .u8 (0), .int .u8 (0), .int .u8 (0), .int .u8 (0), .int .u8 (0), .int .u8 (0), .int .u8 (0), .int .u8 (0), .int .u8 (0), .int .u8 (0), .int .u8 (0), .int .u8 (0), .int .u8 (0), .int .u8 (0), .int .u8 (0), .int .u8 (0), .int .u8 (0), .int .u8 (0), .int .u8 (0), .int .u8 (0), .int .u8 (0), .int .u8 (0), .int .u8 (0), .int .u8 (0), .int .u8 (0), .int .u8 (0), .int .u8 (0), .int .u8 (0), .int .u8 (0), .int .u8 (0), .int .u8 (0), .int .u8 (0), .int .u8 (0), .int .u8 (0), .int .u8 (0), .int .u8 (0), .int .u8 (0), .int .u8 (0), .int .u8 (0), .int .u8 (0), .int .u8 (0), .int .u8 (0), .int .u8 (0), .int .u8 (0), .int .u8 (0), .int .u8 (0), .int .u8 (0), .int .u8 (0), .int .u8 (0), .int .u8 (0), .int .u8 (0), .int .u8 (0), .int .u8 (0), .int .u8 (0), .int .u8 (0), .int .u8 (0), .int .u8 (0), .int .u8 (0), .int .u8 (0), .int .u8 (0), .int .u8 (0), .int .u8 (0), .int .u8 (0), .int .u8 (0), .int .u8 (0), .int .u8 (0), .int .u8 (0), .int .u8 (0), .int .u8 (0), .int .u8 (0), .int .u8 (0), .int .u8 (0), .int .u8 (0), .int .u8 (0), .int .u8 (0), .int .u8 (0), .int .u8 (0), .int .u8 (0), .int .u8 (0), .int .u8 (0)]) := by kernel_rfl
theorem Tryd.tsize101 : tsize Tryd.prog 101 = some 2 := by kernel_rfl
theorem Tryd.tagg101 : tagg Tryd.prog 101 = some true := by kernel_rfl
theorem Tryd.tbytes101 : tbytes Tryd.prog 101 = some 2 := by kernel_rfl
theorem Tryd.tzero101 : tzero Tryd.prog 101 = some (.agg [.int .u8 (0), .int .u8 (0)]) := by kernel_rfl
theorem Tryd.fok101 : fieldsOK Tryd.prog 101 = true := by kernel_rfl
theorem Tryd.tsize102 : tsize Tryd.prog 102 = some 2 := by kernel_rfl
theorem Tryd.tagg102 : tagg Tryd.prog 102 = some true := by kernel_rfl
theorem Tryd.tbytes102 : tbytes Tryd.prog 102 = some 2 := by kernel_rfl
theorem Tryd.tzero102 : tzero Tryd.prog 102 = some (.agg [.int .u8 (0), .int .u8 (0)]) := by kernel_rfl
theorem Tryd.fok102 : fieldsOK Tryd.prog 102 = true := by kernel_rfl
theorem Tryd.tsize103 : tsize Tryd.prog 103 = some 32 := by kernel_rfl
theorem Tryd.tagg103 : tagg Tryd.prog 103 = some true := by kernel_rfl
theorem Tryd.tbytes103 : tbytes Tryd.prog 103 = some 32 := by kernel_rfl
theorem Tryd.tzero103 : tzero Tryd.prog 103 = some (.agg [.int .u8 (0), .int .u8 (0), .int .u8 (0), .int .u8 (0), .int .u8 (0), .int .u8 (0), .int .u8 (0), .int .u8 (0), .int .u8 (0), .int .u8 (0), .int .u8 (0), .int .u8 (0), .int .u8 (0), .int .u8 (0), .int .u8 (0), .int .u8 (0), .int .u8 (0), .int .u8 (0), .int .u8 (0), .int .u8 (0), .int .u8 (0), .int .u8 (0), .int .u8 (0), .int .u8 (0), .int .u8 (0), .int .u8 (0), .int .u8 (0), .int .u8 (0), .int .u8 (0), .int .u8 (0), .int .u8 (0), .int .u8 (0)]) := by kernel_rfl
theorem Tryd.tsize105 : tsize Tryd.prog 105 = some 32 := by kernel_rfl
theorem Tryd.tagg105 : tagg Tryd.prog 105 = some true := by kernel_rfl
theorem Tryd.tbytes105 : tbytes Tryd.prog 105 = some 32 := by kernel_rfl
theorem Tryd.tzero105 : tzero Tryd.prog 105 = some (.agg [.int .u8 (0), .int .u8 (0), .int .u8 (0), .int .u8 (0), .int .u8 (0), .int .u8 (0), .int .u8 (0), .int .u8 (0), .int .u8 (0), .int .u8 (0), .int .u8 (0), .int .u8 (0), .int .u8 (0), .int .u8 (0), .int .u8 (0), .int .u8 (0), .int .u8 (0), .int .u8 (0), .int .u8 (0), .int .u8 (0), .int .u8 (0), .int .u8 (0), .int .u8 (0), .int .u8 (0), .int .u8 (0), .int .u8 (0), .int .u8 (0), .int .u8 (0), .int .u8 (0), .int .u8 (0), .int .u8 (0), .int .u8 (0)]) := by kernel_rfl
theorem Tryd.tsize106 : tsize Tryd.prog 106 = some 64 := by kernel_rfl
theorem Tryd.tagg106 : tagg Tryd.prog 106 = some true := by kernel_rfl
theorem Tryd.tbytes106 : tbytes Tryd.prog 106 = some 64 := by kernel_rfl
theorem Tryd.tzero106 : tzero Tryd.prog 106 = some (.agg [.int .u8 (0), .int .u8 (0), .int .u8 (0), .int .u8 (0), .int .u8 (0), .int .u8 (0), .int .u8 (0), .int .u8 (0), .int .u8 (0), .int .u8 (0), .int .u8 (0), .int .u8 (0), .int .u8 (0), .int .u8 (0), .int .u8 (0), .int .u8 (0), .int .u8 (0), .int .u8 (0), .int .u8 (0), .int .u8 (0), .int .u8 (0), .int .u8 (0), .int .u8 (0), .int .u8 (0), .int .u8 (0), .int .u8 (0), .int .u8 (0), .int .u8 (0), .int .u8 (0), .int .u8 (0), .int .u8 (0), .int .u8 (0), .int .u8 (0), .int .u8 (0), .int .u8 (0), .int .u8 (0), .int .u8 (0), .int .u8 (0), .int .u8 (0), .int .u8 (0), .int .u8 (0), .int .u8 (0), .int .u8 (0), .int .u8 (0), .int .u8 (0), .int .u8 (0), .int .u8 (0), .int .u8 (0), .int .u8 (0), .int .u8 (0), .int .u8 (0), .int .u8 (0), .int .u8 (0), .int .u8 (0), .int .u8 (0), .int .u8 (0), .int .u8 (0), .int .u8 (0), .int .u8 (0), .int .u8 (0), .int .u8 (0), .int .u8 (0), .int .u8 (0), .int .u8 (0)]) := by kernel_rfl
attribute [go_sem] Tryd.tsize2 Tryd.tagg2 Tryd.tbytes2 Tryd.tzero2 Tryd.underlying2 Tryd.tsize3 Tryd.tagg3 Tryd.tbytes3 Tryd.tzero3 Tryd.underlying3 Tryd.tsize4 Tryd.tagg4 Tryd.tbytes4 Tryd.tzero4 Tryd.underlying4 Tryd.tsize5 Tryd.tagg5 Tryd.tbytes5 Tryd.tzero5 Tryd.underlying5 Tryd.tsize9 Tryd.tagg9 Tryd.tbytes9 Tryd.tzero9 Tryd.underlying9 Tryd.tsize21 Tryd.tagg21 Tryd.tbytes21 Tryd.tzero21 Tryd.underlying21 Tryd.tsize22 Tryd.tagg22 Tryd.tbytes22 Tryd.tzero22 Tryd.underlying22 Tryd.tsize23 Tryd.tagg23 Tryd.tbytes23 Tryd.tzero23 Tryd.fok23 Tryd.underlying23 Tryd.tsize24 Tryd.tagg24 Tryd.tbytes24 Tryd.tzero24 Tryd.fok24 Tryd.underlying24 Tryd.tsize30 Tryd.tagg30 Tryd.tbytes30 Tryd.tzero30 Tryd.underlying30 Tryd.tsize36 Tryd.tagg36 Tryd.tbytes36 Tryd.tzero36 Tryd.underlying36 Tryd.tsize44 Tryd.tagg44 Tryd.tbytes44 Tryd.tzero44 Tryd.underlying44 Tryd.tsize57 Tryd.tagg57 Tryd.tbytes57 Tryd.tzero57 Tryd.underlying57 Tryd.tsize63 Tryd.tagg63 Tryd.tbytes63 Tryd.tzero63 Tryd.underlying63 Tryd.tsize66 Tryd.tagg66 Tryd.tbytes66 Tryd.tzero66 Tryd.underlying66 Tryd.tsize75 Tryd.tagg75 Tryd.tbytes75 Tryd.tzero75 Tryd.underlying75 Tryd.tsize78 Tryd.tagg78 Tryd.tbytes78 Tryd.tzero78 Tryd.underlying78 Tryd.tsize80 Tryd.tagg80 Tryd.tbytes80 Tryd.tzero80 Tryd.fok80 Tryd.underlying80 Tryd.tsize81 Tryd.tagg81 Tryd.tbytes81 Tryd.tzero81 Tryd.fok81 Tryd.underlying81 Tryd.tsize83 Tryd.tagg83 Tryd.tbytes83 Tryd.tzero83 Tryd.underlying83 Tryd.tsize89 Tryd.tagg89 Tryd.tbytes89 Tryd.tzero89 Tryd.underlying89 Tryd.tsize90 Tryd.tagg90 Tryd.tbytes90 Tryd.tzero90 Tryd.underlying90 Tryd.tsize91 Tryd.tagg91 Tryd.tbytes91 Tryd.tzero91 Tryd.fok91 Tryd.underlying91 Tryd.tsize92 Tryd.tagg92 Tryd.tbytes92 Tryd.tzero92 Tryd.fok92 Tryd.underlying92 Tryd.tsize94 Tryd.tagg94 Tryd.tbytes94 Tryd.tzero94 Tryd.underlying94 Tryd.tsize95 Tryd.tagg95 Tryd.tbytes95 Tryd.tzero95 Tryd.underlying95 Tryd.tsize96 Tryd.tagg96 Tryd.tbytes96 Tryd.tzero96 Tryd.underlying96 Tryd.tsize100 Tryd.tagg100 Tryd.tbytes100 Tryd.tzero100 Tryd.underlying100 Tryd.tsize101 Tryd.tagg101 Tryd.tbytes101 Tryd.tzero101 Tryd.fok101 Tryd.underlying101 Tryd.tsize102 Tryd.tagg102 Tryd.tbytes102 Tryd.tzero102 Tryd.fok102 Tryd.underlying102 Tryd.tsize103 Tryd.tagg103 Tryd.tbytes103 Tryd.tzero103 Tryd.underlying103 Tryd.tsize105 Tryd.tagg105 Tryd.tbytes105 Tryd.tzero105 Tryd.underlying105 Tryd.tsize106 Tryd.tagg106 Tryd.tbytes106 Tryd.tzero106 Tryd.underlying106
theorem Tryd.pf : PF Tryd.prog := ⟨by kernel_rfl⟩
end Go.Proofs.YtkmnepmnjpdpkaaDoor
