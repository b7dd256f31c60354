/- Contracts of functions that the laws of this seat call. -/
import Derived.Test.YtkmnepmnjpdpkaaGreatDoorEvB
import Derived.Test.YtkmnepmnjpdpkaaGreatDoorEvC
import Derived.Lib.ItoaMem
import Derived.Test.YtkmnepmnjpdpkaaGreatDoorProg
import Derived.KernelRfl
set_option linter.all false
namespace Go.Proofs.YtkmnepmnjpdpkaaGreatDoor
open Go Go.Ev Go.RowKit
def cntA : List AV := [.int .i64 1, .int .i64 3, .int .i64 4, .int .i64 1, .int .i64 2, .int .i64 2, .int .i64 1, .int .i64 1]
def cntV : List Value := [.int .i64 1, .int .i64 3, .int .i64 4, .int .i64 1, .int .i64 2, .int .i64 2, .int .i64 1, .int .i64 1]
def glOK (I : Nat → Prop) (w : World) : Prop := VarOK Tryz.prog I w "loop.example/strideviews/impl.actCounts" (fun cs => cs = cntV.toArray) ∧ VarOK Tryz.prog I w "internal/strconv.uint64pow10" (fun cs => cs = (Lib.pow10Tab.map fun z => Value.int .u64 z).toArray)
def glV (n : Nat) : AV := if n = 1 then .dptr cntA 0 else .any
instance : Gl := ⟨glV, glOK, fun _ _ _ _ ⟨h0, h1⟩ hI hw => ⟨h0.mono hI hw, h1.mono hI hw⟩⟩
theorem gl_cnt : Gl.g 1 = AV.dptr cntA 0 := rfl
attribute [go_sem] gl_cnt
theorem okTab {I : Nat → Prop} {w : World} (h : Gl.ok I w) : Lib.TabIs Tryz.prog w "internal/strconv.uint64pow10" .u64 Lib.pow10Tab := (show glOK I w from h).2.tab
theorem glGOK {I : Nat → Prop} {w : World} (h : glOK I w) : GOKw I w := by
  refine ⟨fun g => ?_, h⟩
  show R I _ _ w (glV g) _
  unfold glV
  split
  · rename_i e; subst e
    refine h.1.dptr (by kernel_rfl) rfl fun i hi => ?_
    have hi : i < 8 := hi
    match i, hi with
    | 0, _ => exact .int _ _
    | 1, _ => exact .int _ _
    | 2, _ => exact .int _ _
    | 3, _ => exact .int _ _
    | 4, _ => exact .int _ _
    | 5, _ => exact .int _ _
    | 6, _ => exact .int _ _
    | 7, _ => exact .int _ _
  · exact .any _
theorem Tryz.tsize2 : tsize Tryz.prog 2 = some 1 := by kernel_rfl
theorem Tryz.tagg2 : tagg Tryz.prog 2 = some false := by kernel_rfl
theorem Tryz.tbytes2 : tbytes Tryz.prog 2 = some 8 := by kernel_rfl
theorem Tryz.tzero2 : tzero Tryz.prog 2 = some (.int .i64 (0)) := by kernel_rfl
theorem Tryz.tsize3 : tsize Tryz.prog 3 = some 1 := by kernel_rfl
theorem Tryz.tagg3 : tagg Tryz.prog 3 = some false := by kernel_rfl
theorem Tryz.tbytes3 : tbytes Tryz.prog 3 = some 8 := by kernel_rfl
theorem Tryz.tzero3 : tzero Tryz.prog 3 = some (.int .i64 (0)) := by kernel_rfl
theorem Tryz.tsize4 : tsize Tryz.prog 4 = some 1 := by kernel_rfl
theorem Tryz.tagg4 : tagg Tryz.prog 4 = some false := by kernel_rfl
theorem Tryz.tbytes4 : tbytes Tryz.prog 4 = some 1 := by kernel_rfl
theorem Tryz.tzero4 : tzero Tryz.prog 4 = some (.bool false) := by kernel_rfl
theorem Tryz.tsize5 : tsize Tryz.prog 5 = some 1 := by kernel_rfl
theorem Tryz.tagg5 : tagg Tryz.prog 5 = some false := by kernel_rfl
theorem Tryz.tbytes5 : tbytes Tryz.prog 5 = some 1 := by kernel_rfl
theorem Tryz.tzero5 : tzero Tryz.prog 5 = some (.int .u8 (0)) := by kernel_rfl
theorem Tryz.tsize9 : tsize Tryz.prog 9 = some 1 := by kernel_rfl
theorem Tryz.tagg9 : tagg Tryz.prog 9 = some false := by kernel_rfl
theorem Tryz.tbytes9 : tbytes Tryz.prog 9 = some 16 := by kernel_rfl
theorem Tryz.tzero9 : tzero Tryz.prog 9 = some (.str ByteArray.empty) := by kernel_rfl
theorem Tryz.tsize21 : tsize Tryz.prog 21 = some 1 := by kernel_rfl
theorem Tryz.tagg21 : tagg Tryz.prog 21 = some false := by kernel_rfl
theorem Tryz.tbytes21 : tbytes Tryz.prog 21 = some 4 := by kernel_rfl
theorem Tryz.tzero21 : tzero Tryz.prog 21 = some (.int .i32 (0)) := by kernel_rfl
theorem Tryz.tsize22 : tsize Tryz.prog 22 = some 1 := by kernel_rfl
theorem Tryz.tagg22 : tagg Tryz.prog 22 = some false := by kernel_rfl
theorem Tryz.tbytes22 : tbytes Tryz.prog 22 = some 24 := by kernel_rfl
theorem Tryz.tzero22 : tzero Tryz.prog 22 = some (.nilS) := by kernel_rfl
theorem Tryz.tsize24 : tsize Tryz.prog 24 = some 1 := by kernel_rfl
theorem Tryz.tagg24 : tagg Tryz.prog 24 = some false := by kernel_rfl
theorem Tryz.tbytes24 : tbytes Tryz.prog 24 = some 24 := by kernel_rfl
theorem Tryz.tzero24 : tzero Tryz.prog 24 = some (.nilS) := by kernel_rfl
theorem Tryz.tsize25 : tsize Tryz.prog 25 = some 1 := by kernel_rfl
theorem Tryz.tagg25 : tagg Tryz.prog 25 = some false := by kernel_rfl
theorem Tryz.tbytes25 : tbytes Tryz.prog 25 = some 24 := by kernel_rfl
theorem Tryz.tzero25 : tzero Tryz.prog 25 = some (.nilS) := by kernel_rfl
theorem Tryz.tsize26 : tsize Tryz.prog 26 = some 2 := by kernel_rfl
theorem Tryz.tagg26 : tagg Tryz.prog 26 = some true := by kernel_rfl
theorem Tryz.tbytes26 : tbytes Tryz.prog 26 = some 48 := by kernel_rfl
theorem Tryz.tzero26 : tzero Tryz.prog 26 = some (.agg [.nilS, .nilS]) := by kernel_rfl
theorem Tryz.fok26 : fieldsOK Tryz.prog 26 = true := by kernel_rfl
theorem Tryz.tsize27 : tsize Tryz.prog 27 = some 2 := by kernel_rfl
theorem Tryz.tagg27 : tagg Tryz.prog 27 = some true := by kernel_rfl
theorem Tryz.tbytes27 : tbytes Tryz.prog 27 = some 48 := by kernel_rfl
theorem Tryz.tzero27 : tzero Tryz.prog 27 = some (.agg [.nilS, .nilS]) := by kernel_rfl
theorem Tryz.fok27 : fieldsOK Tryz.prog 27 = true := by kernel_rfl
theorem Tryz.tsize31 : tsize Tryz.prog 31 = some 1 := by kernel_rfl
theorem Tryz.tagg31 : tagg Tryz.prog 31 = some false := by kernel_rfl
theorem Tryz.tbytes31 : tbytes Tryz.prog 31 = some 24 := by kernel_rfl
theorem Tryz.tzero31 : tzero Tryz.prog 31 = some (.nilS) := by kernel_rfl
theorem Tryz.tsize35 : tsize Tryz.prog 35 = some 2 := by kernel_rfl
theorem Tryz.tagg35 : tagg Tryz.prog 35 = some true := by kernel_rfl
theorem Tryz.tbytes35 : tbytes Tryz.prog 35 = some 32 := by kernel_rfl
theorem Tryz.tzero35 : tzero Tryz.prog 35 = some (.agg [.int .i64 (0), .nilS]) := by kernel_rfl
theorem Tryz.fok35 : fieldsOK Tryz.prog 35 = true := by kernel_rfl
theorem Tryz.tsize36 : tsize Tryz.prog 36 = some 2 := by kernel_rfl
theorem Tryz.tagg36 : tagg Tryz.prog 36 = some true := by kernel_rfl
theorem Tryz.tbytes36 : tbytes Tryz.prog 36 = some 32 := by kernel_rfl
theorem Tryz.tzero36 : tzero Tryz.prog 36 = some (.agg [.int .i64 (0), .nilS]) := by kernel_rfl
theorem Tryz.fok36 : fieldsOK Tryz.prog 36 = true := by kernel_rfl
theorem Tryz.tsize46 : tsize Tryz.prog 46 = some 3 := by kernel_rfl
theorem Tryz.tagg46 : tagg Tryz.prog 46 = some true := by kernel_rfl
theorem Tryz.tbytes46 : tbytes Tryz.prog 46 = some 56 := by kernel_rfl
theorem Tryz.tzero46 : tzero Tryz.prog 46 = some (.agg [.int .i64 (0), .nilS, .nilS]) := by kernel_rfl
theorem Tryz.fok46 : fieldsOK Tryz.prog 46 = true := by kernel_rfl
theorem Tryz.tsize47 : tsize Tryz.prog 47 = some 3 := by kernel_rfl
theorem Tryz.tagg47 : tagg Tryz.prog 47 = some true := by kernel_rfl
theorem Tryz.tbytes47 : tbytes Tryz.prog 47 = some 56 := by kernel_rfl
theorem Tryz.tzero47 : tzero Tryz.prog 47 = some (.agg [.int .i64 (0), .nilS, .nilS]) := by kernel_rfl
theorem Tryz.fok47 : fieldsOK Tryz.prog 47 = true := by kernel_rfl
theorem Tryz.tsize48 : tsize Tryz.prog 48 = some 5 := by kernel_rfl
theorem Tryz.tagg48 : tagg Tryz.prog 48 = some true := by kernel_rfl
theorem Tryz.tbytes48 : tbytes Tryz.prog 48 = some 72 := by kernel_rfl
theorem Tryz.tzero48 : tzero Tryz.prog 48 = some (.agg [.int .i64 (0), .int .i64 (0), .nilS, .nilS, .bool false]) := by kernel_rfl
theorem Tryz.fok48 : fieldsOK Tryz.prog 48 = true := by kernel_rfl
theorem Tryz.tsize49 : tsize Tryz.prog 49 = some 5 := by kernel_rfl
theorem Tryz.tagg49 : tagg Tryz.prog 49 = some true := by kernel_rfl
theorem Tryz.tbytes49 : tbytes Tryz.prog 49 = some 72 := by kernel_rfl
theorem Tryz.tzero49 : tzero Tryz.prog 49 = some (.agg [.int .i64 (0), .int .i64 (0), .nilS, .nilS, .bool false]) := by kernel_rfl
theorem Tryz.fok49 : fieldsOK Tryz.prog 49 = true := by kernel_rfl
theorem Tryz.tsize58 : tsize Tryz.prog 58 = some 1 := by kernel_rfl
theorem Tryz.tagg58 : tagg Tryz.prog 58 = some false := by kernel_rfl
theorem Tryz.tbytes58 : tbytes Tryz.prog 58 = some 24 := by kernel_rfl
theorem Tryz.tzero58 : tzero Tryz.prog 58 = some (.nilS) := by kernel_rfl
theorem Tryz.tsize59 : tsize Tryz.prog 59 = some 2 := by kernel_rfl
theorem Tryz.tagg59 : tagg Tryz.prog 59 = some true := by kernel_rfl
theorem Tryz.tbytes59 : tbytes Tryz.prog 59 = some 48 := by kernel_rfl
theorem Tryz.tzero59 : tzero Tryz.prog 59 = some (.agg [.nilS, .nilS]) := by kernel_rfl
theorem Tryz.fok59 : fieldsOK Tryz.prog 59 = true := by kernel_rfl
theorem Tryz.tsize60 : tsize Tryz.prog 60 = some 2 := by kernel_rfl
theorem Tryz.tagg60 : tagg Tryz.prog 60 = some true := by kernel_rfl
theorem Tryz.tbytes60 : tbytes Tryz.prog 60 = some 48 := by kernel_rfl
theorem Tryz.tzero60 : tzero Tryz.prog 60 = some (.agg [.nilS, .nilS]) := by kernel_rfl
theorem Tryz.fok60 : fieldsOK Tryz.prog 60 = true := by kernel_rfl
theorem Tryz.tsize61 : tsize Tryz.prog 61 = some 2 := by kernel_rfl
theorem Tryz.tagg61 : tagg Tryz.prog 61 = some true := by kernel_rfl
theorem Tryz.tbytes61 : tbytes Tryz.prog 61 = some 32 := by kernel_rfl
theorem Tryz.tzero61 : tzero Tryz.prog 61 = some (.agg [.int .i64 (0), .nilS]) := by kernel_rfl
theorem Tryz.fok61 : fieldsOK Tryz.prog 61 = true := by kernel_rfl
theorem Tryz.tsize69 : tsize Tryz.prog 69 = some 1 := by kernel_rfl
theorem Tryz.tagg69 : tagg Tryz.prog 69 = some false := by kernel_rfl
theorem Tryz.tbytes69 : tbytes Tryz.prog 69 = some 8 := by kernel_rfl
theorem Tryz.tzero69 : tzero Tryz.prog 69 = some (.nilP) := by kernel_rfl
theorem Tryz.tsize75 : tsize Tryz.prog 75 = some 8 := by kernel_rfl
theorem Tryz.tagg75 : tagg Tryz.prog 75 = some true := by kernel_rfl
theorem Tryz.tbytes75 : tbytes Tryz.prog 75 = some 128 := by kernel_rfl
theorem Tryz.tzero75 : tzero Tryz.prog 75 = some (.agg [.str ByteArray.empty, .str ByteArray.empty, .str ByteArray.empty, .str ByteArray.empty, .str ByteArray.empty, .str ByteArray.empty, .str ByteArray.empty, .str ByteArray.empty]) := by kernel_rfl
theorem Tryz.tsize80 : tsize Tryz.prog 80 = some 1 := by kernel_rfl
theorem Tryz.tagg80 : tagg Tryz.prog 80 = some false := by kernel_rfl
theorem Tryz.tbytes80 : tbytes Tryz.prog 80 = some 24 := by kernel_rfl
theorem Tryz.tzero80 : tzero Tryz.prog 80 = some (.nilS) := by kernel_rfl
theorem Tryz.tsize92 : tsize Tryz.prog 92 = some 2 := by kernel_rfl
theorem Tryz.tagg92 : tagg Tryz.prog 92 = some true := by kernel_rfl
theorem Tryz.tbytes92 : tbytes Tryz.prog 92 = some 32 := by kernel_rfl
theorem Tryz.tzero92 : tzero Tryz.prog 92 = some (.agg [.nilS, .int .i64 (0)]) := by kernel_rfl
theorem Tryz.fok92 : fieldsOK Tryz.prog 92 = true := by kernel_rfl
theorem Tryz.tsize93 : tsize Tryz.prog 93 = some 2 := by kernel_rfl
theorem Tryz.tagg93 : tagg Tryz.prog 93 = some true := by kernel_rfl
theorem Tryz.tbytes93 : tbytes Tryz.prog 93 = some 32 := by kernel_rfl
theorem Tryz.tzero93 : tzero Tryz.prog 93 = some (.agg [.nilS, .int .i64 (0)]) := by kernel_rfl
theorem Tryz.fok93 : fieldsOK Tryz.prog 93 = true := by kernel_rfl
theorem Tryz.tsize100 : tsize Tryz.prog 100 = some 5 := by kernel_rfl
theorem Tryz.tagg100 : tagg Tryz.prog 100 = some true := by kernel_rfl
theorem Tryz.tbytes100 : tbytes Tryz.prog 100 = some 32 := by kernel_rfl
theorem Tryz.tzero100 : tzero Tryz.prog 100 = some (.agg [.int .i64 (0), .int .i64 (0), .int .i64 (0), .bool false, .bool false]) := by kernel_rfl
theorem Tryz.fok100 : fieldsOK Tryz.prog 100 = true := by kernel_rfl
theorem Tryz.tsize101 : tsize Tryz.prog 101 = some 5 := by kernel_rfl
theorem Tryz.tagg101 : tagg Tryz.prog 101 = some true := by kernel_rfl
theorem Tryz.tbytes101 : tbytes Tryz.prog 101 = some 32 := by kernel_rfl
theorem Tryz.tzero101 : tzero Tryz.prog 101 = some (.agg [.int .i64 (0), .int .i64 (0), .int .i64 (0), .bool false, .bool false]) := by kernel_rfl
theorem Tryz.fok101 : fieldsOK Tryz.prog 101 = true := by kernel_rfl
theorem Tryz.tsize111 : tsize Tryz.prog 111 = some 8 := by kernel_rfl
theorem Tryz.tagg111 : tagg Tryz.prog 111 = some true := by kernel_rfl
theorem Tryz.tbytes111 : tbytes Tryz.prog 111 = some 64 := by kernel_rfl
theorem Tryz.tzero111 : tzero Tryz.prog 111 = some (.agg [.int .i64 (0), .int .i64 (0), .int .i64 (0), .int .i64 (0), .int .i64 (0), .int .i64 (0), .int .i64 (0), .int .i64 (0)]) := by kernel_rfl
theorem Tryz.tsize126 : tsize Tryz.prog 126 = some 3 := by kernel_rfl
theorem Tryz.tagg126 : tagg Tryz.prog 126 = some true := by kernel_rfl
theorem Tryz.tbytes126 : tbytes Tryz.prog 126 = some 56 := by kernel_rfl
theorem Tryz.tzero126 : tzero Tryz.prog 126 = some (.agg [.int .i64 (0), .nilS, .nilS]) := by kernel_rfl
theorem Tryz.fok126 : fieldsOK Tryz.prog 126 = true := by kernel_rfl
theorem Tryz.tsize127 : tsize Tryz.prog 127 = some 5 := by kernel_rfl
theorem Tryz.tagg127 : tagg Tryz.prog 127 = some true := by kernel_rfl
theorem Tryz.tbytes127 : tbytes Tryz.prog 127 = some 72 := by kernel_rfl
theorem Tryz.tzero127 : tzero Tryz.prog 127 = some (.agg [.int .i64 (0), .int .i64 (0), .nilS, .nilS, .bool false]) := by kernel_rfl
theorem Tryz.fok127 : fieldsOK Tryz.prog 127 = true := by kernel_rfl
theorem Tryz.tsize128 : tsize Tryz.prog 128 = some 5 := by kernel_rfl
theorem Tryz.tagg128 : tagg Tryz.prog 128 = some true := by kernel_rfl
theorem Tryz.tbytes128 : tbytes Tryz.prog 128 = some 72 := by kernel_rfl
theorem Tryz.tzero128 : tzero Tryz.prog 128 = some (.agg [.int .i64 (0), .int .i64 (0), .nilS, .nilS, .bool false]) := by kernel_rfl
theorem Tryz.fok128 : fieldsOK Tryz.prog 128 = true := by kernel_rfl
theorem Tryz.tsize152 : tsize Tryz.prog 152 = some 24 := by kernel_rfl
theorem Tryz.tagg152 : tagg Tryz.prog 152 = some true := by kernel_rfl
theorem Tryz.tbytes152 : tbytes Tryz.prog 152 = some 24 := by kernel_rfl
theorem Tryz.tzero152 : tzero Tryz.prog 152 = some (.agg [.int .u8 (0), .int .u8 (0), .int .u8 (0), .int .u8 (0), .int .u8 (0), .int .u8 (0), .int .u8 (0), .int .u8 (0), .int .u8 (0), .int .u8 (0), .int .u8 (0), .int .u8 (0), .int .u8 (0), .int .u8 (0), .int .u8 (0), .int .u8 (0), .int .u8 (0), .int .u8 (0), .int .u8 (0), .int .u8 (0), .int .u8 (0), .int .u8 (0), .int .u8 (0), .int .u8 (0)]) := by kernel_rfl
theorem Tryz.tsize153 : tsize Tryz.prog 153 = some 1 := by kernel_rfl
theorem Tryz.tagg153 : tagg Tryz.prog 153 = some false := by kernel_rfl
theorem Tryz.tbytes153 : tbytes Tryz.prog 153 = some 8 := by kernel_rfl
theorem Tryz.tzero153 : tzero Tryz.prog 153 = some (.int .u64 (0)) := by kernel_rfl
theorem Tryz.tsize162 : tsize Tryz.prog 162 = some 1 := by kernel_rfl
theorem Tryz.tagg162 : tagg Tryz.prog 162 = some false := by kernel_rfl
theorem Tryz.tbytes162 : tbytes Tryz.prog 162 = some 8 := by kernel_rfl
theorem Tryz.tzero162 : tzero Tryz.prog 162 = some (.nilP) := by kernel_rfl
theorem Tryz.tsize166 : tsize Tryz.prog 166 = some 1 := by kernel_rfl
theorem Tryz.tagg166 : tagg Tryz.prog 166 = some false := by kernel_rfl
theorem Tryz.tbytes166 : tbytes Tryz.prog 166 = some 8 := by kernel_rfl
theorem Tryz.tzero166 : tzero Tryz.prog 166 = some (.int .u64 (0)) := by kernel_rfl
theorem Tryz.tsize170 : tsize Tryz.prog 170 = some 20 := by kernel_rfl
theorem Tryz.tagg170 : tagg Tryz.prog 170 = some true := by kernel_rfl
theorem Tryz.tbytes170 : tbytes Tryz.prog 170 = some 160 := by kernel_rfl
theorem Tryz.tzero170 : tzero Tryz.prog 170 = some (.agg [.int .u64 (0), .int .u64 (0), .int .u64 (0), .int .u64 (0), .int .u64 (0), .int .u64 (0), .int .u64 (0), .int .u64 (0), .int .u64 (0), .int .u64 (0), .int .u64 (0), .int .u64 (0), .int .u64 (0), .int .u64 (0), .int .u64 (0), .int .u64 (0), .int .u64 (0), .int .u64 (0), .int .u64 (0), .int .u64 (0)]) := by kernel_rfl
theorem Tryz.tsize171 : tsize Tryz.prog 171 = some 1 := by kernel_rfl
theorem Tryz.tagg171 : tagg Tryz.prog 171 = some false := by kernel_rfl
theorem Tryz.tbytes171 : tbytes Tryz.prog 171 = some 4 := by kernel_rfl
theorem Tryz.tzero171 : tzero Tryz.prog 171 = some (.int .u32 (0)) := by kernel_rfl
theorem Tryz.tsize172 : tsize Tryz.prog 172 = some 65 := by kernel_rfl
theorem Tryz.tagg172 : tagg Tryz.prog 172 = some true := by kernel_rfl
theorem Tryz.tbytes172 : tbytes Tryz.prog 172 = some 65 := by kernel_rfl
theorem Tryz.tzero172 : tzero Tryz.prog 172 = some (.agg [.int .u8 (0), .int .u8 (0), .int .u8 (0), .int .u8 (0), .int .u8 (0), .int .u8 (0), .int .u8 (0), .int .u8 (0), .int .u8 (0), .int .u8 (0), .int .u8 (0), .int .u8 (0), .int .u8 (0), .int .u8 (0), .int .u8 (0), .int .u8 (0), .int .u8 (0), .int .u8 (0), .int .u8 (0), .int .u8 (0), .int .u8 (0), .int .u8 (0), .int .u8 (0), .int .u8 (0), .int .u8 (0), .int .u8 (0), .int .u8 (0), .int .u8 (0), .int .u8 (0), .int .u8 (0), .int .u8 (0), .int .u8 (0), .int .u8 (0), .int .u8 (0), .int .u8 (0), .int .u8 (0), .int .u8 (0), .int .u8 (0), .int .u8 (0), .int .u8 (0), .int .u8 (0), .int .u8 (0), .int .u8 (0), .int .u8 (0), .int .u8 (0), .int .u8 (0), .int .u8 (0), .int .u8 (0), .int .u8 (0), .int .u8 (0), .int .u8 (0), .int .u8 (0), .int .u8 (0), .int .u8 (0), .int .u8 (0), .int .u8 (0), .int .u8 (0), .int .u8 (0), .int .u8 (0), .int .u8 (0), .int .u8 (0), .int .u8 (0), .int .u8 (0), .int .u8 (0), .int .u8 (0)]) := by kernel_rfl
theorem Tryz.tsize178 : tsize Tryz.prog 178 = some 3 := by kernel_rfl
theorem Tryz.tagg178 : tagg Tryz.prog 178 = some true := by kernel_rfl
theorem Tryz.tbytes178 : tbytes Tryz.prog 178 = some 48 := by kernel_rfl
theorem Tryz.tzero178 : tzero Tryz.prog 178 = some (.agg [.str ByteArray.empty, .str ByteArray.empty, .ifc false]) := by kernel_rfl
theorem Tryz.fok178 : fieldsOK Tryz.prog 178 = true := by kernel_rfl
theorem Tryz.tsize179 : tsize Tryz.prog 179 = some 3 := by kernel_rfl
theorem Tryz.tagg179 : tagg Tryz.prog 179 = some true := by kernel_rfl
theorem Tryz.tbytes179 : tbytes Tryz.prog 179 = some 48 := by kernel_rfl
theorem Tryz.tzero179 : tzero Tryz.prog 179 = some (.agg [.str ByteArray.empty, .str ByteArray.empty, .ifc false]) := by kernel_rfl
theorem Tryz.fok179 : fieldsOK Tryz.prog 179 = true := by kernel_rfl
theorem Tryz.tsize183 : tsize Tryz.prog 183 = some 3 := by kernel_rfl
theorem Tryz.tagg183 : tagg Tryz.prog 183 = some true := by kernel_rfl
theorem Tryz.tbytes183 : tbytes Tryz.prog 183 = some 24 := by kernel_rfl
theorem Tryz.tzero183 : tzero Tryz.prog 183 = some (.agg [.int .i64 (0), .int .i64 (0), .int .i64 (0)]) := by kernel_rfl
theorem Tryz.fok183 : fieldsOK Tryz.prog 183 = true := by kernel_rfl
theorem Tryz.tsize184 : tsize Tryz.prog 184 = some 3 := by kernel_rfl
theorem Tryz.tagg184 : tagg Tryz.prog 184 = some true := by kernel_rfl
theorem Tryz.tbytes184 : tbytes Tryz.prog 184 = some 24 := by kernel_rfl
theorem Tryz.tzero184 : tzero Tryz.prog 184 = some (.agg [.int .i64 (0), .int .i64 (0), .int .i64 (0)]) := by kernel_rfl
theorem Tryz.fok184 : fieldsOK Tryz.prog 184 = true := by kernel_rfl
theorem Tryz.tsize190 : tsize Tryz.prog 190 = some 1 := by kernel_rfl
theorem Tryz.tagg190 : tagg Tryz.prog 190 = some false := by kernel_rfl
theorem Tryz.tbytes190 : tbytes Tryz.prog 190 = some 8 := by kernel_rfl
theorem Tryz.tzero190 : tzero Tryz.prog 190 = some (.nilP) := by kernel_rfl
theorem Tryz.tsize191 : tsize Tryz.prog 191 = some 1 := by kernel_rfl
theorem Tryz.tagg191 : tagg Tryz.prog 191 = some false := by kernel_rfl
theorem Tryz.tbytes191 : tbytes Tryz.prog 191 = some 8 := by kernel_rfl
theorem Tryz.tzero191 : tzero Tryz.prog 191 = some (.nilP) := by kernel_rfl
theorem Tryz.tsize192 : tsize Tryz.prog 192 = some 1 := by kernel_rfl
theorem Tryz.tagg192 : tagg Tryz.prog 192 = some true := by kernel_rfl
theorem Tryz.tbytes192 : tbytes Tryz.prog 192 = some 16 := by kernel_rfl
theorem Tryz.tzero192 : tzero Tryz.prog 192 = some (.agg [.str ByteArray.empty]) := by kernel_rfl
theorem Tryz.fok192 : fieldsOK Tryz.prog 192 = true := by kernel_rfl
theorem Tryz.tsize193 : tsize Tryz.prog 193 = some 1 := by kernel_rfl
theorem Tryz.tagg193 : tagg Tryz.prog 193 = some true := by kernel_rfl
theorem Tryz.tbytes193 : tbytes Tryz.prog 193 = some 16 := by kernel_rfl
theorem Tryz.tzero193 : tzero Tryz.prog 193 = some (.agg [.str ByteArray.empty]) := by kernel_rfl
theorem Tryz.fok193 : fieldsOK Tryz.prog 193 = true := by kernel_rfl
theorem Tryz.tsize194 : tsize Tryz.prog 194 = some 32 := by kernel_rfl
theorem Tryz.tagg194 : tagg Tryz.prog 194 = some true := by kernel_rfl
theorem Tryz.tbytes194 : tbytes Tryz.prog 194 = some 32 := by kernel_rfl
theorem Tryz.tzero194 : tzero Tryz.prog 194 = some (.agg [.int .u8 (0), .int .u8 (0), .int .u8 (0), .int .u8 (0), .int .u8 (0), .int .u8 (0), .int .u8 (0), .int .u8 (0), .int .u8 (0), .int .u8 (0), .int .u8 (0), .int .u8 (0), .int .u8 (0), .int .u8 (0), .int .u8 (0), .int .u8 (0), .int .u8 (0), .int .u8 (0), .int .u8 (0), .int .u8 (0), .int .u8 (0), .int .u8 (0), .int .u8 (0), .int .u8 (0), .int .u8 (0), .int .u8 (0), .int .u8 (0), .int .u8 (0), .int .u8 (0), .int .u8 (0), .int .u8 (0), .int .u8 (0)]) := by kernel_rfl
theorem Tryz.tsize195 : tsize Tryz.prog 195 = some 64 := by kernel_rfl
theorem Tryz.tagg195 : tagg Tryz.prog 195 = some true := by kernel_rfl
theorem Tryz.tbytes195 : tbytes Tryz.prog 195 = some 64 := by kernel_rfl
theorem Tryz.tzero195 : tzero Tryz.prog 195 = some (.agg [.int .u8 (0), .int .u8 (0), .int .u8 (0), .int .u8 (0), .int .u8 (0), .int .u8 (0), .int .u8 (0), .int .u8 (0), .int .u8 (0), .int .u8 (0), .int .u8 (0), .int .u8 (0), .int .u8 (0), .int .u8 (0), .int .u8 (0), .int .u8 (0), .int .u8 (0), .int .u8 (0), .int .u8 (0), .int .u8 (0), .int .u8 (0), .int .u8 (0), .int .u8 (0), .int .u8 (0), .int .u8 (0), .int .u8 (0), .int .u8 (0), .int .u8 (0), .int .u8 (0), .int .u8 (0), .int .u8 (0), .int .u8 (0), .int .u8 (0), .int .u8 (0), .int .u8 (0), .int .u8 (0), .int .u8 (0), .int .u8 (0), .int .u8 (0), .int .u8 (0), .int .u8 (0), .int .u8 (0), .int .u8 (0), .int .u8 (0), .int .u8 (0), .int .u8 (0), .int .u8 (0), .int .u8 (0), .int .u8 (0), .int .u8 (0), .int .u8 (0), .int .u8 (0), .int .u8 (0), .int .u8 (0), .int .u8 (0), .int .u8 (0), .int .u8 (0), .int .u8 (0), .int .u8 (0), .int .u8 (0), .int .u8 (0), .int .u8 (0), .int .u8 (0), .int .u8 (0)]) := by kernel_rfl
theorem Tryz.tsize196 : tsize Tryz.prog 196 = some 256 := by kernel_rfl
theorem Tryz.tagg196 : tagg Tryz.prog 196 = some true := by kernel_rfl
theorem Tryz.tbytes196 : tbytes Tryz.prog 196 = some 256 := by kernel_rfl
theorem Tryz.tzero196 : tzero Tryz.prog 196 = some (.agg [.int .u8 (0), .int .u8 (0), .int .u8 (0), .int .u8 (0), .int .u8 (0), .int .u8 (0), .int .u8 (0), .int .u8 (0), .int .u8 (0), .int .u8 (0), .int .u8 (0), .int .u8 (0), .int .u8 (0), .int .u8 (0), .int .u8 (0), .int .u8 (0), .int .u8 (0), .int .u8 (0), .int .u8 (0), .int .u8 (0), .int .u8 (0), .int .u8 (0), .int .u8 (0), .int .u8 (0), .int .u8 (0), .int .u8 (0), .int .u8 (0), .int .u8 (0), .int .u8 (0), .int .u8 (0), .int .u8 (0), .int .u8 (0), .int .u8 (0), .int .u8 (0), .int .u8 (0), .int .u8 (0), .int .u8 (0), .int .u8 (0), .int .u8 (0), .int .u8 (0), .int .u8 (0), .int .u8 (0), .int .u8 (0), .int .u8 (0), .int .u8 (0), .int .u8 (0), .int .u8 (0), .int .u8 (0), .int .u8 (0), .int .u8 (0), .int .u8 (0), .int .u8 (0), .int .u8 (0), .int .u8 (0), .int .u8 (0), .int .u8 (0), .int .u8 (0), .int .u8 (0), .int .u8 (0), .int .u8 (0), .int .u8 (0), .int .u8 (0), .int .u8 (0), .int .u8 (0), .int .u8 (0), .int .u8 (0), .int .u8 (0), .int .u8 (0), .int .u8 (0), .int .u8 (0), .int .u8 (0), .int .u8 (0), .int .u8 (0), .int .u8 (0), .int .u8 (0), .int .u8 (0), .int .u8 (0), .int .u8 (0), .int .u8 (0), .int .u8 (0), .int .u8 (0), .int .u8 (0), .int .u8 (0), .int .u8 (0), .int .u8 (0), .int .u8 (0), .int .u8 (0), .int .u8 (0), .int .u8 (0), .int .u8 (0), .int .u8 (0), .int .u8 (0), .int .u8 (0), .int .u8 (0), .int .u8 (0), .int .u8 (0), .int .u8 (0), .int .u8 (0), .int .u8 (0), .int .u8 (0), .int .u8 (0), .int .u8 (0), .int .u8 (0), .int .u8 (0), .int .u8 (0), .int .u8 (0), .int .u8 (0), .int .u8 (0), .int .u8 (0), .int .u8 (0), .int .u8 (0), .int .u8 (0), .int .u8 (0), .int .u8 (0), .int .u8 (0), .int .u8 (0), .int .u8 (0), .int .u8 (0), .int .u8 (0), .int .u8 (0), .int .u8 (0), .int .u8 (0), .int .u8 (0), .int .u8 (0), .int .u8 (0), .int .u8 (0), .int .u8 (0), .int .u8 (0), .int .u8 (0), .int .u8 (0), .int .u8 (0), .int .u8 (0), .int .u8 (0), .int .u8 (0), .int .u8 (0), .int .u8 (0), .int .u8 (0), .int .u8 (0), .int .u8 (0), .int .u8 (0), .int .u8 (0), .int .u8 (0), .int .u8 (0), .int .u8 (0), .int .u8 (0), .int .u8 (0), .int .u8 (0), .int .u8 (0), .int .u8 (0), .int .u8 (0), .int .u8 (0), .int .u8 (0), .int .u8 (0), .int .u8 (0), .int .u8 (0), .int .u8 (0), .int .u8 (0), .int .u8 (0), .int .u8 (0), .int .u8 (0), .int .u8 (0), .int .u8 (0), .int .u8 (0), .int .u8 (0), .int .u8 (0), .int .u8 (0), .int .u8 (0), .int .u8 (0), .int .u8 (0), .int .u8 (0), .int .u8 (0), .int .u8 (0), .int .u8 (0), .int .u8 (0), .int .u8 (0), .int .u8 (0), .int .u8 (0), .int .u8 (0), .int .u8 (0), .int .u8 (0), .int .u8 (0), .int .u8 (0), .int .u8 (0), .int .u8 (0), .int .u8 (0), .int .u8 (0), .int .u8 (0), .int .u8 (0), .int .u8 (0), .int .u8 (0), .int .u8 (0), .int .u8 (0), .int .u8 (0), .int .u8 (0), .int .u8 (0), .int .u8 (0), .int .u8 (0), .int .u8 (0), .int .u8 (0), .int .u8 (0), .int .u8 (0), .int .u8 (0), .int .u8 (0), .int .u8 (0), .int .u8 (0), .int .u8 (0), .int .u8 (0), .int .u8 (0), .int .u8 (0), .int .u8 (0), .int .u8 (0), .int .u8 (0), .int .u8 (0), .int .u8 (0), .int .u8 (0), .int .u8 (0), .int .u8 (0), .int .u8 (0), .int .u8 (0), .int .u8 (0), .int .u8 (0), .int .u8 (0), .int .u8 (0), .int .u8 (0), .int .u8 (0), .int .u8 (0), .int .u8 (0), .int .u8 (0), .int .u8 (0), .int .u8 (0), .int .u8 (0), .int .u8 (0), .int .u8 (0), .int .u8 (0), .int .u8 (0), .int .u8 (0), .int .u8 (0), .int .u8 (0), .int .u8 (0), .int .u8 (0), .int .u8 (0), .int .u8 (0), .int .u8 (0), .int .u8 (0), .int .u8 (0), .int .u8 (0), .int .u8 (0), .int .u8 (0), .int .u8 (0), .int .u8 (0), .int .u8 (0), .int .u8 (0), .int .u8 (0), .int .u8 (0), .int .u8 (0), .int .u8 (0)]) := by kernel_rfl
theorem Tryz.tsize197 : tsize Tryz.prog 197 = some 2 := by kernel_rfl
theorem Tryz.tagg197 : tagg Tryz.prog 197 = some true := by kernel_rfl
theorem Tryz.tbytes197 : tbytes Tryz.prog 197 = some 2 := by kernel_rfl
theorem Tryz.tzero197 : tzero Tryz.prog 197 = some (.agg [.int .u8 (0), .int .u8 (0)]) := by kernel_rfl
theorem Tryz.fok197 : fieldsOK Tryz.prog 197 = true := by kernel_rfl
theorem Tryz.tsize198 : tsize Tryz.prog 198 = some 2 := by kernel_rfl
theorem Tryz.tagg198 : tagg Tryz.prog 198 = some true := by kernel_rfl
theorem Tryz.tbytes198 : tbytes Tryz.prog 198 = some 2 := by kernel_rfl
theorem Tryz.tzero198 : tzero Tryz.prog 198 = some (.agg [.int .u8 (0), .int .u8 (0)]) := by kernel_rfl
theorem Tryz.fok198 : fieldsOK Tryz.prog 198 = true := by kernel_rfl
theorem Tryz.tsize199 : tsize Tryz.prog 199 = some 32 := by kernel_rfl
theorem Tryz.tagg199 : tagg Tryz.prog 199 = some true := by kernel_rfl
theorem Tryz.tbytes199 : tbytes Tryz.prog 199 = some 32 := by kernel_rfl
theorem Tryz.tzero199 : tzero Tryz.prog 199 = some (.agg [.int .u8 (0), .int .u8 (0), .int .u8 (0), .int .u8 (0), .int .u8 (0), .int .u8 (0), .int .u8 (0), .int .u8 (0), .int .u8 (0), .int .u8 (0), .int .u8 (0), .int .u8 (0), .int .u8 (0), .int .u8 (0), .int .u8 (0), .int .u8 (0), .int .u8 (0), .int .u8 (0), .int .u8 (0), .int .u8 (0), .int .u8 (0), .int .u8 (0), .int .u8 (0), .int .u8 (0), .int .u8 (0), .int .u8 (0), .int .u8 (0), .int .u8 (0), .int .u8 (0), .int .u8 (0), .int .u8 (0), .int .u8 (0)]) := by kernel_rfl
attribute [go_sem] Tryz.tsize2 Tryz.tagg2 Tryz.tbytes2 Tryz.tzero2 Tryz.underlying2 Tryz.tsize3 Tryz.tagg3 Tryz.tbytes3 Tryz.tzero3 Tryz.underlying3 Tryz.tsize4 Tryz.tagg4 Tryz.tbytes4 Tryz.tzero4 Tryz.underlying4 Tryz.tsize5 Tryz.tagg5 Tryz.tbytes5 Tryz.tzero5 Tryz.underlying5 Tryz.tsize9 Tryz.tagg9 Tryz.tbytes9 Tryz.tzero9 Tryz.underlying9 Tryz.tsize21 Tryz.tagg21 Tryz.tbytes21 Tryz.tzero21 Tryz.underlying21 Tryz.tsize22 Tryz.tagg22 Tryz.tbytes22 Tryz.tzero22 Tryz.underlying22 Tryz.tsize24 Tryz.tagg24 Tryz.tbytes24 Tryz.tzero24 Tryz.underlying24 Tryz.tsize25 Tryz.tagg25 Tryz.tbytes25 Tryz.tzero25 Tryz.underlying25 Tryz.tsize26 Tryz.tagg26 Tryz.tbytes26 Tryz.tzero26 Tryz.fok26 Tryz.underlying26 Tryz.tsize27 Tryz.tagg27 Tryz.tbytes27 Tryz.tzero27 Tryz.fok27 Tryz.underlying27 Tryz.tsize31 Tryz.tagg31 Tryz.tbytes31 Tryz.tzero31 Tryz.underlying31 Tryz.tsize35 Tryz.tagg35 Tryz.tbytes35 Tryz.tzero35 Tryz.fok35 Tryz.underlying35 Tryz.tsize36 Tryz.tagg36 Tryz.tbytes36 Tryz.tzero36 Tryz.fok36 Tryz.underlying36 Tryz.tsize46 Tryz.tagg46 Tryz.tbytes46 Tryz.tzero46 Tryz.fok46 Tryz.underlying46 Tryz.tsize47 Tryz.tagg47 Tryz.tbytes47 Tryz.tzero47 Tryz.fok47 Tryz.underlying47 Tryz.tsize48 Tryz.tagg48 Tryz.tbytes48 Tryz.tzero48 Tryz.fok48 Tryz.underlying48 Tryz.tsize49 Tryz.tagg49 Tryz.tbytes49 Tryz.tzero49 Tryz.fok49 Tryz.underlying49 Tryz.tsize58 Tryz.tagg58 Tryz.tbytes58 Tryz.tzero58 Tryz.underlying58 Tryz.tsize59 Tryz.tagg59 Tryz.tbytes59 Tryz.tzero59 Tryz.fok59 Tryz.underlying59 Tryz.tsize60 Tryz.tagg60 Tryz.tbytes60 Tryz.tzero60 Tryz.fok60 Tryz.underlying60 Tryz.tsize61 Tryz.tagg61 Tryz.tbytes61 Tryz.tzero61 Tryz.fok61 Tryz.underlying61 Tryz.tsize69 Tryz.tagg69 Tryz.tbytes69 Tryz.tzero69 Tryz.underlying69 Tryz.tsize75 Tryz.tagg75 Tryz.tbytes75 Tryz.tzero75 Tryz.underlying75 Tryz.tsize80 Tryz.tagg80 Tryz.tbytes80 Tryz.tzero80 Tryz.underlying80 Tryz.tsize92 Tryz.tagg92 Tryz.tbytes92 Tryz.tzero92 Tryz.fok92 Tryz.underlying92 Tryz.tsize93 Tryz.tagg93 Tryz.tbytes93 Tryz.tzero93 Tryz.fok93 Tryz.underlying93 Tryz.tsize100 Tryz.tagg100 Tryz.tbytes100 Tryz.tzero100 Tryz.fok100 Tryz.underlying100 Tryz.tsize101 Tryz.tagg101 Tryz.tbytes101 Tryz.tzero101 Tryz.fok101 Tryz.underlying101 Tryz.tsize111 Tryz.tagg111 Tryz.tbytes111 Tryz.tzero111 Tryz.underlying111 Tryz.tsize126 Tryz.tagg126 Tryz.tbytes126 Tryz.tzero126 Tryz.fok126 Tryz.underlying126 Tryz.tsize127 Tryz.tagg127 Tryz.tbytes127 Tryz.tzero127 Tryz.fok127 Tryz.underlying127 Tryz.tsize128 Tryz.tagg128 Tryz.tbytes128 Tryz.tzero128 Tryz.fok128 Tryz.underlying128 Tryz.tsize152 Tryz.tagg152 Tryz.tbytes152 Tryz.tzero152 Tryz.underlying152 Tryz.tsize153 Tryz.tagg153 Tryz.tbytes153 Tryz.tzero153 Tryz.underlying153 Tryz.tsize162 Tryz.tagg162 Tryz.tbytes162 Tryz.tzero162 Tryz.underlying162 Tryz.tsize166 Tryz.tagg166 Tryz.tbytes166 Tryz.tzero166 Tryz.underlying166 Tryz.tsize170 Tryz.tagg170 Tryz.tbytes170 Tryz.tzero170 Tryz.underlying170 Tryz.tsize171 Tryz.tagg171 Tryz.tbytes171 Tryz.tzero171 Tryz.underlying171 Tryz.tsize172 Tryz.tagg172 Tryz.tbytes172 Tryz.tzero172 Tryz.underlying172 Tryz.tsize178 Tryz.tagg178 Tryz.tbytes178 Tryz.tzero178 Tryz.fok178 Tryz.underlying178 Tryz.tsize179 Tryz.tagg179 Tryz.tbytes179 Tryz.tzero179 Tryz.fok179 Tryz.underlying179 Tryz.tsize183 Tryz.tagg183 Tryz.tbytes183 Tryz.tzero183 Tryz.fok183 Tryz.underlying183 Tryz.tsize184 Tryz.tagg184 Tryz.tbytes184 Tryz.tzero184 Tryz.fok184 Tryz.underlying184 Tryz.tsize190 Tryz.tagg190 Tryz.tbytes190 Tryz.tzero190 Tryz.underlying190 Tryz.tsize191 Tryz.tagg191 Tryz.tbytes191 Tryz.tzero191 Tryz.underlying191 Tryz.tsize192 Tryz.tagg192 Tryz.tbytes192 Tryz.tzero192 Tryz.fok192 Tryz.underlying192 Tryz.tsize193 Tryz.tagg193 Tryz.tbytes193 Tryz.tzero193 Tryz.fok193 Tryz.underlying193 Tryz.tsize194 Tryz.tagg194 Tryz.tbytes194 Tryz.tzero194 Tryz.underlying194 Tryz.tsize195 Tryz.tagg195 Tryz.tbytes195 Tryz.tzero195 Tryz.underlying195 Tryz.tsize196 Tryz.tagg196 Tryz.tbytes196 Tryz.tzero196 Tryz.underlying196 Tryz.tsize197 Tryz.tagg197 Tryz.tbytes197 Tryz.tzero197 Tryz.fok197 Tryz.underlying197 Tryz.tsize198 Tryz.tagg198 Tryz.tbytes198 Tryz.tzero198 Tryz.fok198 Tryz.underlying198 Tryz.tsize199 Tryz.tagg199 Tryz.tbytes199 Tryz.tzero199 Tryz.underlying199
theorem Tryz.pf : PF Tryz.prog := ⟨by kernel_rfl⟩
end Go.Proofs.YtkmnepmnjpdpkaaGreatDoor
