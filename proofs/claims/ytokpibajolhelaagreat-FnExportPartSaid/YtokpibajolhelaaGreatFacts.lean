/- Contracts of functions that the laws of this seat call. -/
import Derived.Test.YtokpibajolhelaaGreatEvB
import Derived.Test.YtokpibajolhelaaGreatProg
import Derived.KernelRfl
set_option linter.all false
namespace Go.Proofs.YtokpibajolhelaaGreat
open Go Go.Ev Go.RowKit
theorem Tryz.tsize2 : tsize Tryz.prog 2 = some 1 := by kernel_rfl
theorem Tryz.tagg2 : tagg Tryz.prog 2 = some false := by kernel_rfl
theorem Tryz.tbytes2 : tbytes Tryz.prog 2 = some 8 := by kernel_rfl
theorem Tryz.tzero2 : tzero Tryz.prog 2 = some (.int .i64 (0)) := by kernel_rfl
theorem Tryz.tsize3 : tsize Tryz.prog 3 = some 1 := by kernel_rfl
theorem Tryz.tagg3 : tagg Tryz.prog 3 = some false := by kernel_rfl
theorem Tryz.tbytes3 : tbytes Tryz.prog 3 = some 8 := by kernel_rfl
theorem Tryz.tzero3 : tzero Tryz.prog 3 = some (.int .i64 (0)) := by kernel_rfl
theorem Tryz.tsize4 : tsize Tryz.prog 4 = some 1 := by kernel_rfl
theorem Tryz.tagg4 : tagg Tryz.prog 4 = some false := by kernel_rfl
theorem Tryz.tbytes4 : tbytes Tryz.prog 4 = some 1 := by kernel_rfl
theorem Tryz.tzero4 : tzero Tryz.prog 4 = some (.bool false) := by kernel_rfl
theorem Tryz.tsize5 : tsize Tryz.prog 5 = some 1 := by kernel_rfl
theorem Tryz.tagg5 : tagg Tryz.prog 5 = some false := by kernel_rfl
theorem Tryz.tbytes5 : tbytes Tryz.prog 5 = some 1 := by kernel_rfl
theorem Tryz.tzero5 : tzero Tryz.prog 5 = some (.int .u8 (0)) := by kernel_rfl
theorem Tryz.tsize9 : tsize Tryz.prog 9 = some 1 := by kernel_rfl
theorem Tryz.tagg9 : tagg Tryz.prog 9 = some false := by kernel_rfl
theorem Tryz.tbytes9 : tbytes Tryz.prog 9 = some 16 := by kernel_rfl
theorem Tryz.tzero9 : tzero Tryz.prog 9 = some (.str ByteArray.empty) := by kernel_rfl
theorem Tryz.tsize21 : tsize Tryz.prog 21 = some 1 := by kernel_rfl
theorem Tryz.tagg21 : tagg Tryz.prog 21 = some false := by kernel_rfl
theorem Tryz.tbytes21 : tbytes Tryz.prog 21 = some 4 := by kernel_rfl
theorem Tryz.tzero21 : tzero Tryz.prog 21 = some (.int .i32 (0)) := by kernel_rfl
theorem Tryz.tsize22 : tsize Tryz.prog 22 = some 1 := by kernel_rfl
theorem Tryz.tagg22 : tagg Tryz.prog 22 = some false := by kernel_rfl
theorem Tryz.tbytes22 : tbytes Tryz.prog 22 = some 24 := by kernel_rfl
theorem Tryz.tzero22 : tzero Tryz.prog 22 = some (.nilS) := by kernel_rfl
theorem Tryz.tsize23 : tsize Tryz.prog 23 = some 1 := by kernel_rfl
theorem Tryz.tagg23 : tagg Tryz.prog 23 = some false := by kernel_rfl
theorem Tryz.tbytes23 : tbytes Tryz.prog 23 = some 24 := by kernel_rfl
theorem Tryz.tzero23 : tzero Tryz.prog 23 = some (.nilS) := by kernel_rfl
theorem Tryz.tsize24 : tsize Tryz.prog 24 = some 1 := by kernel_rfl
theorem Tryz.tagg24 : tagg Tryz.prog 24 = some false := by kernel_rfl
theorem Tryz.tbytes24 : tbytes Tryz.prog 24 = some 24 := by kernel_rfl
theorem Tryz.tzero24 : tzero Tryz.prog 24 = some (.nilS) := by kernel_rfl
theorem Tryz.tsize25 : tsize Tryz.prog 25 = some 2 := by kernel_rfl
theorem Tryz.tagg25 : tagg Tryz.prog 25 = some true := by kernel_rfl
theorem Tryz.tbytes25 : tbytes Tryz.prog 25 = some 48 := by kernel_rfl
theorem Tryz.tzero25 : tzero Tryz.prog 25 = some (.agg [.nilS, .nilS]) := by kernel_rfl
theorem Tryz.fok25 : fieldsOK Tryz.prog 25 = true := by kernel_rfl
theorem Tryz.tsize26 : tsize Tryz.prog 26 = some 2 := by kernel_rfl
theorem Tryz.tagg26 : tagg Tryz.prog 26 = some true := by kernel_rfl
theorem Tryz.tbytes26 : tbytes Tryz.prog 26 = some 48 := by kernel_rfl
theorem Tryz.tzero26 : tzero Tryz.prog 26 = some (.agg [.nilS, .nilS]) := by kernel_rfl
theorem Tryz.fok26 : fieldsOK Tryz.prog 26 = true := by kernel_rfl
theorem Tryz.tsize27 : tsize Tryz.prog 27 = some 3 := by kernel_rfl
theorem Tryz.tagg27 : tagg Tryz.prog 27 = some true := by kernel_rfl
theorem Tryz.tbytes27 : tbytes Tryz.prog 27 = some 56 := by kernel_rfl
theorem Tryz.tzero27 : tzero Tryz.prog 27 = some (.agg [.int .i64 (0), .nilS, .nilS]) := by kernel_rfl
theorem Tryz.fok27 : fieldsOK Tryz.prog 27 = true := by kernel_rfl
theorem Tryz.tsize28 : tsize Tryz.prog 28 = some 3 := by kernel_rfl
theorem Tryz.tagg28 : tagg Tryz.prog 28 = some true := by kernel_rfl
theorem Tryz.tbytes28 : tbytes Tryz.prog 28 = some 56 := by kernel_rfl
theorem Tryz.tzero28 : tzero Tryz.prog 28 = some (.agg [.int .i64 (0), .nilS, .nilS]) := by kernel_rfl
theorem Tryz.fok28 : fieldsOK Tryz.prog 28 = true := by kernel_rfl
theorem Tryz.tsize45 : tsize Tryz.prog 45 = some 5 := by kernel_rfl
theorem Tryz.tagg45 : tagg Tryz.prog 45 = some true := by kernel_rfl
theorem Tryz.tbytes45 : tbytes Tryz.prog 45 = some 72 := by kernel_rfl
theorem Tryz.tzero45 : tzero Tryz.prog 45 = some (.agg [.int .i64 (0), .int .i64 (0), .nilS, .nilS, .bool false]) := by kernel_rfl
theorem Tryz.fok45 : fieldsOK Tryz.prog 45 = true := by kernel_rfl
theorem Tryz.tsize46 : tsize Tryz.prog 46 = some 5 := by kernel_rfl
theorem Tryz.tagg46 : tagg Tryz.prog 46 = some true := by kernel_rfl
theorem Tryz.tbytes46 : tbytes Tryz.prog 46 = some 72 := by kernel_rfl
theorem Tryz.tzero46 : tzero Tryz.prog 46 = some (.agg [.int .i64 (0), .int .i64 (0), .nilS, .nilS, .bool false]) := by kernel_rfl
theorem Tryz.fok46 : fieldsOK Tryz.prog 46 = true := by kernel_rfl
theorem Tryz.tsize49 : tsize Tryz.prog 49 = some 5 := by kernel_rfl
theorem Tryz.tagg49 : tagg Tryz.prog 49 = some true := by kernel_rfl
theorem Tryz.tbytes49 : tbytes Tryz.prog 49 = some 32 := by kernel_rfl
theorem Tryz.tzero49 : tzero Tryz.prog 49 = some (.agg [.int .i64 (0), .int .i64 (0), .int .i64 (0), .bool false, .bool false]) := by kernel_rfl
theorem Tryz.fok49 : fieldsOK Tryz.prog 49 = true := by kernel_rfl
theorem Tryz.tsize50 : tsize Tryz.prog 50 = some 5 := by kernel_rfl
theorem Tryz.tagg50 : tagg Tryz.prog 50 = some true := by kernel_rfl
theorem Tryz.tbytes50 : tbytes Tryz.prog 50 = some 32 := by kernel_rfl
theorem Tryz.tzero50 : tzero Tryz.prog 50 = some (.agg [.int .i64 (0), .int .i64 (0), .int .i64 (0), .bool false, .bool false]) := by kernel_rfl
theorem Tryz.fok50 : fieldsOK Tryz.prog 50 = true := by kernel_rfl
theorem Tryz.tsize55 : tsize Tryz.prog 55 = some 1 := by kernel_rfl
theorem Tryz.tagg55 : tagg Tryz.prog 55 = some false := by kernel_rfl
theorem Tryz.tbytes55 : tbytes Tryz.prog 55 = some 8 := by kernel_rfl
theorem Tryz.tzero55 : tzero Tryz.prog 55 = some (.nilP) := by kernel_rfl
theorem Tryz.tsize79 : tsize Tryz.prog 79 = some 2 := by kernel_rfl
theorem Tryz.tagg79 : tagg Tryz.prog 79 = some true := by kernel_rfl
theorem Tryz.tbytes79 : tbytes Tryz.prog 79 = some 32 := by kernel_rfl
theorem Tryz.tzero79 : tzero Tryz.prog 79 = some (.agg [.nilS, .int .i64 (0)]) := by kernel_rfl
theorem Tryz.fok79 : fieldsOK Tryz.prog 79 = true := by kernel_rfl
theorem Tryz.tsize80 : tsize Tryz.prog 80 = some 2 := by kernel_rfl
theorem Tryz.tagg80 : tagg Tryz.prog 80 = some true := by kernel_rfl
theorem Tryz.tbytes80 : tbytes Tryz.prog 80 = some 32 := by kernel_rfl
theorem Tryz.tzero80 : tzero Tryz.prog 80 = some (.agg [.nilS, .int .i64 (0)]) := by kernel_rfl
theorem Tryz.fok80 : fieldsOK Tryz.prog 80 = true := by kernel_rfl
theorem Tryz.tsize96 : tsize Tryz.prog 96 = some 2 := by kernel_rfl
theorem Tryz.tagg96 : tagg Tryz.prog 96 = some true := by kernel_rfl
theorem Tryz.tbytes96 : tbytes Tryz.prog 96 = some 32 := by kernel_rfl
theorem Tryz.tzero96 : tzero Tryz.prog 96 = some (.agg [.int .i64 (0), .nilS]) := by kernel_rfl
theorem Tryz.fok96 : fieldsOK Tryz.prog 96 = true := by kernel_rfl
theorem Tryz.tsize97 : tsize Tryz.prog 97 = some 2 := by kernel_rfl
theorem Tryz.tagg97 : tagg Tryz.prog 97 = some true := by kernel_rfl
theorem Tryz.tbytes97 : tbytes Tryz.prog 97 = some 32 := by kernel_rfl
theorem Tryz.tzero97 : tzero Tryz.prog 97 = some (.agg [.int .i64 (0), .nilS]) := by kernel_rfl
theorem Tryz.fok97 : fieldsOK Tryz.prog 97 = true := by kernel_rfl
theorem Tryz.tsize108 : tsize Tryz.prog 108 = some 1 := by kernel_rfl
theorem Tryz.tagg108 : tagg Tryz.prog 108 = some false := by kernel_rfl
theorem Tryz.tbytes108 : tbytes Tryz.prog 108 = some 8 := by kernel_rfl
theorem Tryz.tzero108 : tzero Tryz.prog 108 = some (.int .u64 (0)) := by kernel_rfl
theorem Tryz.tsize110 : tsize Tryz.prog 110 = some 3 := by kernel_rfl
theorem Tryz.tagg110 : tagg Tryz.prog 110 = some true := by kernel_rfl
theorem Tryz.tbytes110 : tbytes Tryz.prog 110 = some 24 := by kernel_rfl
theorem Tryz.tzero110 : tzero Tryz.prog 110 = some (.agg [.int .i64 (0), .int .i64 (0), .int .i64 (0)]) := by kernel_rfl
theorem Tryz.fok110 : fieldsOK Tryz.prog 110 = true := by kernel_rfl
theorem Tryz.tsize111 : tsize Tryz.prog 111 = some 3 := by kernel_rfl
theorem Tryz.tagg111 : tagg Tryz.prog 111 = some true := by kernel_rfl
theorem Tryz.tbytes111 : tbytes Tryz.prog 111 = some 24 := by kernel_rfl
theorem Tryz.tzero111 : tzero Tryz.prog 111 = some (.agg [.int .i64 (0), .int .i64 (0), .int .i64 (0)]) := by kernel_rfl
theorem Tryz.fok111 : fieldsOK Tryz.prog 111 = true := by kernel_rfl
theorem Tryz.tsize129 : tsize Tryz.prog 129 = some 1 := by kernel_rfl
theorem Tryz.tagg129 : tagg Tryz.prog 129 = some false := by kernel_rfl
theorem Tryz.tbytes129 : tbytes Tryz.prog 129 = some 4 := by kernel_rfl
theorem Tryz.tzero129 : tzero Tryz.prog 129 = some (.int .u32 (0)) := by kernel_rfl
theorem Tryz.tsize131 : tsize Tryz.prog 131 = some 1 := by kernel_rfl
theorem Tryz.tagg131 : tagg Tryz.prog 131 = some false := by kernel_rfl
theorem Tryz.tbytes131 : tbytes Tryz.prog 131 = some 8 := by kernel_rfl
theorem Tryz.tzero131 : tzero Tryz.prog 131 = some (.int .u64 (0)) := by kernel_rfl
theorem Tryz.tsize138 : tsize Tryz.prog 138 = some 1 := by kernel_rfl
theorem Tryz.tagg138 : tagg Tryz.prog 138 = some false := by kernel_rfl
theorem Tryz.tbytes138 : tbytes Tryz.prog 138 = some 8 := by kernel_rfl
theorem Tryz.tzero138 : tzero Tryz.prog 138 = some (.nilP) := by kernel_rfl
theorem Tryz.tsize153 : tsize Tryz.prog 153 = some 1 := by kernel_rfl
theorem Tryz.tagg153 : tagg Tryz.prog 153 = some false := by kernel_rfl
theorem Tryz.tbytes153 : tbytes Tryz.prog 153 = some 8 := by kernel_rfl
theorem Tryz.tzero153 : tzero Tryz.prog 153 = some (.nilP) := by kernel_rfl
attribute [go_sem] Tryz.tsize2 Tryz.tagg2 Tryz.tbytes2 Tryz.tzero2 Tryz.underlying2 Tryz.tsize3 Tryz.tagg3 Tryz.tbytes3 Tryz.tzero3 Tryz.underlying3 Tryz.tsize4 Tryz.tagg4 Tryz.tbytes4 Tryz.tzero4 Tryz.underlying4 Tryz.tsize5 Tryz.tagg5 Tryz.tbytes5 Tryz.tzero5 Tryz.underlying5 Tryz.tsize9 Tryz.tagg9 Tryz.tbytes9 Tryz.tzero9 Tryz.underlying9 Tryz.tsize21 Tryz.tagg21 Tryz.tbytes21 Tryz.tzero21 Tryz.underlying21 Tryz.tsize22 Tryz.tagg22 Tryz.tbytes22 Tryz.tzero22 Tryz.underlying22 Tryz.tsize23 Tryz.tagg23 Tryz.tbytes23 Tryz.tzero23 Tryz.underlying23 Tryz.tsize24 Tryz.tagg24 Tryz.tbytes24 Tryz.tzero24 Tryz.underlying24 Tryz.tsize25 Tryz.tagg25 Tryz.tbytes25 Tryz.tzero25 Tryz.fok25 Tryz.underlying25 Tryz.tsize26 Tryz.tagg26 Tryz.tbytes26 Tryz.tzero26 Tryz.fok26 Tryz.underlying26 Tryz.tsize27 Tryz.tagg27 Tryz.tbytes27 Tryz.tzero27 Tryz.fok27 Tryz.underlying27 Tryz.tsize28 Tryz.tagg28 Tryz.tbytes28 Tryz.tzero28 Tryz.fok28 Tryz.underlying28 Tryz.tsize45 Tryz.tagg45 Tryz.tbytes45 Tryz.tzero45 Tryz.fok45 Tryz.underlying45 Tryz.tsize46 Tryz.tagg46 Tryz.tbytes46 Tryz.tzero46 Tryz.fok46 Tryz.underlying46 Tryz.tsize49 Tryz.tagg49 Tryz.tbytes49 Tryz.tzero49 Tryz.fok49 Tryz.underlying49 Tryz.tsize50 Tryz.tagg50 Tryz.tbytes50 Tryz.tzero50 Tryz.fok50 Tryz.underlying50 Tryz.tsize55 Tryz.tagg55 Tryz.tbytes55 Tryz.tzero55 Tryz.underlying55 Tryz.tsize79 Tryz.tagg79 Tryz.tbytes79 Tryz.tzero79 Tryz.fok79 Tryz.underlying79 Tryz.tsize80 Tryz.tagg80 Tryz.tbytes80 Tryz.tzero80 Tryz.fok80 Tryz.underlying80 Tryz.tsize96 Tryz.tagg96 Tryz.tbytes96 Tryz.tzero96 Tryz.fok96 Tryz.underlying96 Tryz.tsize97 Tryz.tagg97 Tryz.tbytes97 Tryz.tzero97 Tryz.fok97 Tryz.underlying97 Tryz.tsize108 Tryz.tagg108 Tryz.tbytes108 Tryz.tzero108 Tryz.underlying108 Tryz.tsize110 Tryz.tagg110 Tryz.tbytes110 Tryz.tzero110 Tryz.fok110 Tryz.underlying110 Tryz.tsize111 Tryz.tagg111 Tryz.tbytes111 Tryz.tzero111 Tryz.fok111 Tryz.underlying111 Tryz.tsize129 Tryz.tagg129 Tryz.tbytes129 Tryz.tzero129 Tryz.underlying129 Tryz.tsize131 Tryz.tagg131 Tryz.tbytes131 Tryz.tzero131 Tryz.underlying131 Tryz.tsize138 Tryz.tagg138 Tryz.tbytes138 Tryz.tzero138 Tryz.underlying138 Tryz.tsize153 Tryz.tagg153 Tryz.tbytes153 Tryz.tzero153 Tryz.underlying153
theorem Tryz.pf : PF Tryz.prog := ⟨by kernel_rfl⟩
end Go.Proofs.YtokpibajolhelaaGreat
