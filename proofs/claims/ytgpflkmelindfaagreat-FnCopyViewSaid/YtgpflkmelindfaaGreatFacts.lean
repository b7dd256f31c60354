/- Contracts of functions that the laws of this seat call. -/
import Derived.Test.YtgpflkmelindfaaGreatEvB
import Derived.Test.YtgpflkmelindfaaGreatProg
import Derived.KernelRfl
set_option linter.all false
namespace Go.Proofs.YtgpflkmelindfaaGreat
open Go Go.Ev Go.RowKit
theorem Tryz.tsize2 : tsize Tryz.prog 2 = some 1 := by kernel_rfl
theorem Tryz.tagg2 : tagg Tryz.prog 2 = some false := by kernel_rfl
theorem Tryz.tbytes2 : tbytes Tryz.prog 2 = some 8 := by kernel_rfl
theorem Tryz.tzero2 : tzero Tryz.prog 2 = some (.int .i64 (0)) := by kernel_rfl
theorem Tryz.tsize3 : tsize Tryz.prog 3 = some 1 := by kernel_rfl
theorem Tryz.tagg3 : tagg Tryz.prog 3 = some false := by kernel_rfl
theorem Tryz.tbytes3 : tbytes Tryz.prog 3 = some 8 := by kernel_rfl
theorem Tryz.tzero3 : tzero Tryz.prog 3 = some (.int .i64 (0)) := by kernel_rfl
theorem Tryz.tsize4 : tsize Tryz.prog 4 = some 1 := by kernel_rfl
theorem Tryz.tagg4 : tagg Tryz.prog 4 = some false := by kernel_rfl
theorem Tryz.tbytes4 : tbytes Tryz.prog 4 = some 1 := by kernel_rfl
theorem Tryz.tzero4 : tzero Tryz.prog 4 = some (.bool false) := by kernel_rfl
theorem Tryz.tsize5 : tsize Tryz.prog 5 = some 1 := by kernel_rfl
theorem Tryz.tagg5 : tagg Tryz.prog 5 = some false := by kernel_rfl
theorem Tryz.tbytes5 : tbytes Tryz.prog 5 = some 1 := by kernel_rfl
theorem Tryz.tzero5 : tzero Tryz.prog 5 = some (.int .u8 (0)) := by kernel_rfl
theorem Tryz.tsize6 : tsize Tryz.prog 6 = some 1 := by kernel_rfl
theorem Tryz.tagg6 : tagg Tryz.prog 6 = some false := by kernel_rfl
theorem Tryz.tbytes6 : tbytes Tryz.prog 6 = some 1 := by kernel_rfl
theorem Tryz.tzero6 : tzero Tryz.prog 6 = some (.int .u8 (0)) := by kernel_rfl
theorem Tryz.tsize7 : tsize Tryz.prog 7 = some 4 := by kernel_rfl
theorem Tryz.tagg7 : tagg Tryz.prog 7 = some true := by kernel_rfl
theorem Tryz.tbytes7 : tbytes Tryz.prog 7 = some 24 := by kernel_rfl
theorem Tryz.tzero7 : tzero Tryz.prog 7 = some (.agg [.int .i64 (0), .int .i64 (0), .bool false, .int .u8 (0)]) := by kernel_rfl
theorem Tryz.fok7 : fieldsOK Tryz.prog 7 = true := by kernel_rfl
theorem Tryz.tsize8 : tsize Tryz.prog 8 = some 4 := by kernel_rfl
theorem Tryz.tagg8 : tagg Tryz.prog 8 = some true := by kernel_rfl
theorem Tryz.tbytes8 : tbytes Tryz.prog 8 = some 24 := by kernel_rfl
theorem Tryz.tzero8 : tzero Tryz.prog 8 = some (.agg [.int .i64 (0), .int .i64 (0), .bool false, .int .u8 (0)]) := by kernel_rfl
theorem Tryz.fok8 : fieldsOK Tryz.prog 8 = true := by kernel_rfl
theorem Tryz.tsize9 : tsize Tryz.prog 9 = some 1 := by kernel_rfl
theorem Tryz.tagg9 : tagg Tryz.prog 9 = some false := by kernel_rfl
theorem Tryz.tbytes9 : tbytes Tryz.prog 9 = some 16 := by kernel_rfl
theorem Tryz.tzero9 : tzero Tryz.prog 9 = some (.str ByteArray.empty) := by kernel_rfl
theorem Tryz.tsize10 : tsize Tryz.prog 10 = some 1 := by kernel_rfl
theorem Tryz.tagg10 : tagg Tryz.prog 10 = some false := by kernel_rfl
theorem Tryz.tbytes10 : tbytes Tryz.prog 10 = some 16 := by kernel_rfl
theorem Tryz.tzero10 : tzero Tryz.prog 10 = some (.str ByteArray.empty) := by kernel_rfl
theorem Tryz.tsize11 : tsize Tryz.prog 11 = some 1 := by kernel_rfl
theorem Tryz.tagg11 : tagg Tryz.prog 11 = some false := by kernel_rfl
theorem Tryz.tbytes11 : tbytes Tryz.prog 11 = some 16 := by kernel_rfl
theorem Tryz.tzero11 : tzero Tryz.prog 11 = some (.str ByteArray.empty) := by kernel_rfl
theorem Tryz.tsize12 : tsize Tryz.prog 12 = some 1 := by kernel_rfl
theorem Tryz.tagg12 : tagg Tryz.prog 12 = some false := by kernel_rfl
theorem Tryz.tbytes12 : tbytes Tryz.prog 12 = some 8 := by kernel_rfl
theorem Tryz.tzero12 : tzero Tryz.prog 12 = some (.int .u64 (0)) := by kernel_rfl
theorem Tryz.tsize13 : tsize Tryz.prog 13 = some 2 := by kernel_rfl
theorem Tryz.tagg13 : tagg Tryz.prog 13 = some true := by kernel_rfl
theorem Tryz.tbytes13 : tbytes Tryz.prog 13 = some 24 := by kernel_rfl
theorem Tryz.tzero13 : tzero Tryz.prog 13 = some (.agg [.str ByteArray.empty, .int .u64 (0)]) := by kernel_rfl
theorem Tryz.fok13 : fieldsOK Tryz.prog 13 = true := by kernel_rfl
theorem Tryz.tsize14 : tsize Tryz.prog 14 = some 2 := by kernel_rfl
theorem Tryz.tagg14 : tagg Tryz.prog 14 = some true := by kernel_rfl
theorem Tryz.tbytes14 : tbytes Tryz.prog 14 = some 24 := by kernel_rfl
theorem Tryz.tzero14 : tzero Tryz.prog 14 = some (.agg [.str ByteArray.empty, .int .u64 (0)]) := by kernel_rfl
theorem Tryz.fok14 : fieldsOK Tryz.prog 14 = true := by kernel_rfl
theorem Tryz.tsize15 : tsize Tryz.prog 15 = some 1 := by kernel_rfl
theorem Tryz.tagg15 : tagg Tryz.prog 15 = some false := by kernel_rfl
theorem Tryz.tbytes15 : tbytes Tryz.prog 15 = some 8 := by kernel_rfl
theorem Tryz.tzero15 : tzero Tryz.prog 15 = some (.nilP) := by kernel_rfl
theorem Tryz.tsize16 : tsize Tryz.prog 16 = some 1 := by kernel_rfl
theorem Tryz.tagg16 : tagg Tryz.prog 16 = some false := by kernel_rfl
theorem Tryz.tbytes16 : tbytes Tryz.prog 16 = some 8 := by kernel_rfl
theorem Tryz.tzero16 : tzero Tryz.prog 16 = some (.nilP) := by kernel_rfl
theorem Tryz.tsize17 : tsize Tryz.prog 17 = some 1 := by kernel_rfl
theorem Tryz.tagg17 : tagg Tryz.prog 17 = some false := by kernel_rfl
theorem Tryz.tbytes17 : tbytes Tryz.prog 17 = some 8 := by kernel_rfl
theorem Tryz.tzero17 : tzero Tryz.prog 17 = some (.nilP) := by kernel_rfl
theorem Tryz.tsize18 : tsize Tryz.prog 18 = some 1 := by kernel_rfl
theorem Tryz.tagg18 : tagg Tryz.prog 18 = some true := by kernel_rfl
theorem Tryz.tbytes18 : tbytes Tryz.prog 18 = some 8 := by kernel_rfl
theorem Tryz.tzero18 : tzero Tryz.prog 18 = some (.agg [.nilP]) := by kernel_rfl
theorem Tryz.fok18 : fieldsOK Tryz.prog 18 = true := by kernel_rfl
theorem Tryz.tsize19 : tsize Tryz.prog 19 = some 1 := by kernel_rfl
theorem Tryz.tagg19 : tagg Tryz.prog 19 = some true := by kernel_rfl
theorem Tryz.tbytes19 : tbytes Tryz.prog 19 = some 8 := by kernel_rfl
theorem Tryz.tzero19 : tzero Tryz.prog 19 = some (.agg [.nilP]) := by kernel_rfl
theorem Tryz.fok19 : fieldsOK Tryz.prog 19 = true := by kernel_rfl
theorem Tryz.tsize21 : tsize Tryz.prog 21 = some 1 := by kernel_rfl
theorem Tryz.tagg21 : tagg Tryz.prog 21 = some false := by kernel_rfl
theorem Tryz.tbytes21 : tbytes Tryz.prog 21 = some 4 := by kernel_rfl
theorem Tryz.tzero21 : tzero Tryz.prog 21 = some (.int .i32 (0)) := by kernel_rfl
theorem Tryz.tsize22 : tsize Tryz.prog 22 = some 1 := by kernel_rfl
theorem Tryz.tagg22 : tagg Tryz.prog 22 = some false := by kernel_rfl
theorem Tryz.tbytes22 : tbytes Tryz.prog 22 = some 24 := by kernel_rfl
theorem Tryz.tzero22 : tzero Tryz.prog 22 = some (.nilS) := by kernel_rfl
theorem Tryz.tsize23 : tsize Tryz.prog 23 = some 1 := by kernel_rfl
theorem Tryz.tagg23 : tagg Tryz.prog 23 = some false := by kernel_rfl
theorem Tryz.tbytes23 : tbytes Tryz.prog 23 = some 24 := by kernel_rfl
theorem Tryz.tzero23 : tzero Tryz.prog 23 = some (.nilS) := by kernel_rfl
theorem Tryz.tsize24 : tsize Tryz.prog 24 = some 3 := by kernel_rfl
theorem Tryz.tagg24 : tagg Tryz.prog 24 = some true := by kernel_rfl
theorem Tryz.tbytes24 : tbytes Tryz.prog 24 = some 56 := by kernel_rfl
theorem Tryz.tzero24 : tzero Tryz.prog 24 = some (.agg [.int .i64 (0), .nilS, .nilS]) := by kernel_rfl
theorem Tryz.fok24 : fieldsOK Tryz.prog 24 = true := by kernel_rfl
theorem Tryz.tsize25 : tsize Tryz.prog 25 = some 3 := by kernel_rfl
theorem Tryz.tagg25 : tagg Tryz.prog 25 = some true := by kernel_rfl
theorem Tryz.tbytes25 : tbytes Tryz.prog 25 = some 56 := by kernel_rfl
theorem Tryz.tzero25 : tzero Tryz.prog 25 = some (.agg [.int .i64 (0), .nilS, .nilS]) := by kernel_rfl
theorem Tryz.fok25 : fieldsOK Tryz.prog 25 = true := by kernel_rfl
theorem Tryz.tsize42 : tsize Tryz.prog 42 = some 1 := by kernel_rfl
theorem Tryz.tagg42 : tagg Tryz.prog 42 = some false := by kernel_rfl
theorem Tryz.tbytes42 : tbytes Tryz.prog 42 = some 8 := by kernel_rfl
theorem Tryz.tzero42 : tzero Tryz.prog 42 = some (.nilP) := by kernel_rfl
theorem Tryz.tsize64 : tsize Tryz.prog 64 = some 5 := by kernel_rfl
theorem Tryz.tagg64 : tagg Tryz.prog 64 = some true := by kernel_rfl
theorem Tryz.tbytes64 : tbytes Tryz.prog 64 = some 32 := by kernel_rfl
theorem Tryz.tzero64 : tzero Tryz.prog 64 = some (.agg [.int .i64 (0), .int .i64 (0), .int .i64 (0), .bool false, .bool false]) := by kernel_rfl
theorem Tryz.fok64 : fieldsOK Tryz.prog 64 = true := by kernel_rfl
theorem Tryz.tsize65 : tsize Tryz.prog 65 = some 5 := by kernel_rfl
theorem Tryz.tagg65 : tagg Tryz.prog 65 = some true := by kernel_rfl
theorem Tryz.tbytes65 : tbytes Tryz.prog 65 = some 32 := by kernel_rfl
theorem Tryz.tzero65 : tzero Tryz.prog 65 = some (.agg [.int .i64 (0), .int .i64 (0), .int .i64 (0), .bool false, .bool false]) := by kernel_rfl
theorem Tryz.fok65 : fieldsOK Tryz.prog 65 = true := by kernel_rfl
theorem Tryz.tsize66 : tsize Tryz.prog 66 = some 2 := by kernel_rfl
theorem Tryz.tagg66 : tagg Tryz.prog 66 = some true := by kernel_rfl
theorem Tryz.tbytes66 : tbytes Tryz.prog 66 = some 32 := by kernel_rfl
theorem Tryz.tzero66 : tzero Tryz.prog 66 = some (.agg [.nilS, .int .i64 (0)]) := by kernel_rfl
theorem Tryz.fok66 : fieldsOK Tryz.prog 66 = true := by kernel_rfl
theorem Tryz.tsize67 : tsize Tryz.prog 67 = some 2 := by kernel_rfl
theorem Tryz.tagg67 : tagg Tryz.prog 67 = some true := by kernel_rfl
theorem Tryz.tbytes67 : tbytes Tryz.prog 67 = some 32 := by kernel_rfl
theorem Tryz.tzero67 : tzero Tryz.prog 67 = some (.agg [.nilS, .int .i64 (0)]) := by kernel_rfl
theorem Tryz.fok67 : fieldsOK Tryz.prog 67 = true := by kernel_rfl
theorem Tryz.tsize83 : tsize Tryz.prog 83 = some 1 := by kernel_rfl
theorem Tryz.tagg83 : tagg Tryz.prog 83 = some false := by kernel_rfl
theorem Tryz.tbytes83 : tbytes Tryz.prog 83 = some 8 := by kernel_rfl
theorem Tryz.tzero83 : tzero Tryz.prog 83 = some (.int .u64 (0)) := by kernel_rfl
theorem Tryz.tsize84 : tsize Tryz.prog 84 = some 3 := by kernel_rfl
theorem Tryz.tagg84 : tagg Tryz.prog 84 = some true := by kernel_rfl
theorem Tryz.tbytes84 : tbytes Tryz.prog 84 = some 24 := by kernel_rfl
theorem Tryz.tzero84 : tzero Tryz.prog 84 = some (.agg [.int .i64 (0), .int .i64 (0), .int .i64 (0)]) := by kernel_rfl
theorem Tryz.fok84 : fieldsOK Tryz.prog 84 = true := by kernel_rfl
theorem Tryz.tsize85 : tsize Tryz.prog 85 = some 3 := by kernel_rfl
theorem Tryz.tagg85 : tagg Tryz.prog 85 = some true := by kernel_rfl
theorem Tryz.tbytes85 : tbytes Tryz.prog 85 = some 24 := by kernel_rfl
theorem Tryz.tzero85 : tzero Tryz.prog 85 = some (.agg [.int .i64 (0), .int .i64 (0), .int .i64 (0)]) := by kernel_rfl
theorem Tryz.fok85 : fieldsOK Tryz.prog 85 = true := by kernel_rfl
theorem Tryz.tsize94 : tsize Tryz.prog 94 = some 1 := by kernel_rfl
theorem Tryz.tagg94 : tagg Tryz.prog 94 = some false := by kernel_rfl
theorem Tryz.tbytes94 : tbytes Tryz.prog 94 = some 8 := by kernel_rfl
theorem Tryz.tzero94 : tzero Tryz.prog 94 = some (.int .i64 (0)) := by kernel_rfl
theorem Tryz.tsize102 : tsize Tryz.prog 102 = some 1 := by kernel_rfl
theorem Tryz.tagg102 : tagg Tryz.prog 102 = some false := by kernel_rfl
theorem Tryz.tbytes102 : tbytes Tryz.prog 102 = some 4 := by kernel_rfl
theorem Tryz.tzero102 : tzero Tryz.prog 102 = some (.int .u32 (0)) := by kernel_rfl
theorem Tryz.tsize104 : tsize Tryz.prog 104 = some 1 := by kernel_rfl
theorem Tryz.tagg104 : tagg Tryz.prog 104 = some false := by kernel_rfl
theorem Tryz.tbytes104 : tbytes Tryz.prog 104 = some 8 := by kernel_rfl
theorem Tryz.tzero104 : tzero Tryz.prog 104 = some (.int .u64 (0)) := by kernel_rfl
theorem Tryz.tsize109 : tsize Tryz.prog 109 = some 1 := by kernel_rfl
theorem Tryz.tagg109 : tagg Tryz.prog 109 = some false := by kernel_rfl
theorem Tryz.tbytes109 : tbytes Tryz.prog 109 = some 8 := by kernel_rfl
theorem Tryz.tzero109 : tzero Tryz.prog 109 = some (.int .u64 (0)) := by kernel_rfl
theorem Tryz.tsize113 : tsize Tryz.prog 113 = some 1 := by kernel_rfl
theorem Tryz.tagg113 : tagg Tryz.prog 113 = some false := by kernel_rfl
theorem Tryz.tbytes113 : tbytes Tryz.prog 113 = some 8 := by kernel_rfl
theorem Tryz.tzero113 : tzero Tryz.prog 113 = some (.nilP) := by kernel_rfl
theorem Tryz.tsize116 : tsize Tryz.prog 116 = some 1 := by kernel_rfl
theorem Tryz.tagg116 : tagg Tryz.prog 116 = some false := by kernel_rfl
theorem Tryz.tbytes116 : tbytes Tryz.prog 116 = some 8 := by kernel_rfl
theorem Tryz.tzero116 : tzero Tryz.prog 116 = some (.nilP) := by kernel_rfl
theorem Tryz.tsize120 : tsize Tryz.prog 120 = some 4 := by kernel_rfl
theorem Tryz.tagg120 : tagg Tryz.prog 120 = some true := by kernel_rfl
theorem Tryz.tbytes120 : tbytes Tryz.prog 120 = some 40 := by kernel_rfl
theorem Tryz.tzero120 : tzero Tryz.prog 120 = some (.agg [.nilP, .nilP, .nilP, .str ByteArray.empty]) := by kernel_rfl
theorem Tryz.fok120 : fieldsOK Tryz.prog 120 = true := by kernel_rfl
theorem Tryz.tsize121 : tsize Tryz.prog 121 = some 4 := by kernel_rfl
theorem Tryz.tagg121 : tagg Tryz.prog 121 = some true := by kernel_rfl
theorem Tryz.tbytes121 : tbytes Tryz.prog 121 = some 40 := by kernel_rfl
theorem Tryz.tzero121 : tzero Tryz.prog 121 = some (.agg [.nilP, .nilP, .nilP, .str ByteArray.empty]) := by kernel_rfl
theorem Tryz.fok121 : fieldsOK Tryz.prog 121 = true := by kernel_rfl
theorem Tryz.tsize122 : tsize Tryz.prog 122 = some 0 := by kernel_rfl
theorem Tryz.tagg122 : tagg Tryz.prog 122 = some true := by kernel_rfl
theorem Tryz.tbytes122 : tbytes Tryz.prog 122 = some 0 := by kernel_rfl
theorem Tryz.tzero122 : tzero Tryz.prog 122 = some (.agg []) := by kernel_rfl
theorem Tryz.tsize123 : tsize Tryz.prog 123 = some 0 := by kernel_rfl
theorem Tryz.tagg123 : tagg Tryz.prog 123 = some true := by kernel_rfl
theorem Tryz.tbytes123 : tbytes Tryz.prog 123 = some 0 := by kernel_rfl
theorem Tryz.tzero123 : tzero Tryz.prog 123 = some (.agg []) := by kernel_rfl
theorem Tryz.fok123 : fieldsOK Tryz.prog 123 = true := by kernel_rfl
theorem Tryz.tsize124 : tsize Tryz.prog 124 = some 0 := by kernel_rfl
theorem Tryz.tagg124 : tagg Tryz.prog 124 = some true := by kernel_rfl
theorem Tryz.tbytes124 : tbytes Tryz.prog 124 = some 0 := by kernel_rfl
theorem Tryz.tzero124 : tzero Tryz.prog 124 = some (.agg []) := by kernel_rfl
theorem Tryz.fok124 : fieldsOK Tryz.prog 124 = true := by kernel_rfl
theorem Tryz.tsize126 : tsize Tryz.prog 126 = some 1 := by kernel_rfl
theorem Tryz.tagg126 : tagg Tryz.prog 126 = some false := by kernel_rfl
theorem Tryz.tbytes126 : tbytes Tryz.prog 126 = some 1 := by kernel_rfl
theorem Tryz.tzero126 : tzero Tryz.prog 126 = some (.int .u8 (0)) := by kernel_rfl
theorem Tryz.tsize127 : tsize Tryz.prog 127 = some 1 := by kernel_rfl
theorem Tryz.tagg127 : tagg Tryz.prog 127 = some false := by kernel_rfl
theorem Tryz.tbytes127 : tbytes Tryz.prog 127 = some 1 := by kernel_rfl
theorem Tryz.tzero127 : tzero Tryz.prog 127 = some (.int .u8 (0)) := by kernel_rfl
theorem Tryz.tsize129 : tsize Tryz.prog 129 = some 1 := by kernel_rfl
theorem Tryz.tagg129 : tagg Tryz.prog 129 = some false := by kernel_rfl
theorem Tryz.tbytes129 : tbytes Tryz.prog 129 = some 8 := by kernel_rfl
theorem Tryz.tzero129 : tzero Tryz.prog 129 = some (.nilP) := by kernel_rfl
theorem Tryz.tsize130 : tsize Tryz.prog 130 = some 1 := by kernel_rfl
theorem Tryz.tagg130 : tagg Tryz.prog 130 = some false := by kernel_rfl
theorem Tryz.tbytes130 : tbytes Tryz.prog 130 = some 4 := by kernel_rfl
theorem Tryz.tzero130 : tzero Tryz.prog 130 = some (.int .i32 (0)) := by kernel_rfl
theorem Tryz.tsize131 : tsize Tryz.prog 131 = some 1 := by kernel_rfl
theorem Tryz.tagg131 : tagg Tryz.prog 131 = some false := by kernel_rfl
theorem Tryz.tbytes131 : tbytes Tryz.prog 131 = some 4 := by kernel_rfl
theorem Tryz.tzero131 : tzero Tryz.prog 131 = some (.int .i32 (0)) := by kernel_rfl
theorem Tryz.tsize132 : tsize Tryz.prog 132 = some 11 := by kernel_rfl
theorem Tryz.tagg132 : tagg Tryz.prog 132 = some true := by kernel_rfl
theorem Tryz.tbytes132 : tbytes Tryz.prog 132 = some 48 := by kernel_rfl
theorem Tryz.tzero132 : tzero Tryz.prog 132 = some (.agg [.int .u64 (0), .int .u64 (0), .int .u32 (0), .int .u8 (0), .int .u8 (0), .int .u8 (0), .int .u8 (0), .any, .nilP, .int .i32 (0), .int .i32 (0)]) := by kernel_rfl
theorem Tryz.fok132 : fieldsOK Tryz.prog 132 = true := by kernel_rfl
theorem Tryz.tsize133 : tsize Tryz.prog 133 = some 11 := by kernel_rfl
theorem Tryz.tagg133 : tagg Tryz.prog 133 = some true := by kernel_rfl
theorem Tryz.tbytes133 : tbytes Tryz.prog 133 = some 48 := by kernel_rfl
theorem Tryz.tzero133 : tzero Tryz.prog 133 = some (.agg [.int .u64 (0), .int .u64 (0), .int .u32 (0), .int .u8 (0), .int .u8 (0), .int .u8 (0), .int .u8 (0), .any, .nilP, .int .i32 (0), .int .i32 (0)]) := by kernel_rfl
theorem Tryz.fok133 : fieldsOK Tryz.prog 133 = true := by kernel_rfl
attribute [go_sem] Tryz.tsize2 Tryz.tagg2 Tryz.tbytes2 Tryz.tzero2 Tryz.underlying2 Tryz.tsize3 Tryz.tagg3 Tryz.tbytes3 Tryz.tzero3 Tryz.underlying3 Tryz.tsize4 Tryz.tagg4 Tryz.tbytes4 Tryz.tzero4 Tryz.underlying4 Tryz.tsize5 Tryz.tagg5 Tryz.tbytes5 Tryz.tzero5 Tryz.underlying5 Tryz.tsize9 Tryz.tagg9 Tryz.tbytes9 Tryz.tzero9 Tryz.underlying9 Tryz.tsize21 Tryz.tagg21 Tryz.tbytes21 Tryz.tzero21 Tryz.underlying21 Tryz.tsize22 Tryz.tagg22 Tryz.tbytes22 Tryz.tzero22 Tryz.underlying22 Tryz.tsize23 Tryz.tagg23 Tryz.tbytes23 Tryz.tzero23 Tryz.underlying23 Tryz.tsize24 Tryz.tagg24 Tryz.tbytes24 Tryz.tzero24 Tryz.fok24 Tryz.underlying24 Tryz.tsize25 Tryz.tagg25 Tryz.tbytes25 Tryz.tzero25 Tryz.fok25 Tryz.underlying25 Tryz.tsize42 Tryz.tagg42 Tryz.tbytes42 Tryz.tzero42 Tryz.underlying42 Tryz.tsize64 Tryz.tagg64 Tryz.tbytes64 Tryz.tzero64 Tryz.fok64 Tryz.underlying64 Tryz.tsize65 Tryz.tagg65 Tryz.tbytes65 Tryz.tzero65 Tryz.fok65 Tryz.underlying65 Tryz.tsize66 Tryz.tagg66 Tryz.tbytes66 Tryz.tzero66 Tryz.fok66 Tryz.underlying66 Tryz.tsize67 Tryz.tagg67 Tryz.tbytes67 Tryz.tzero67 Tryz.fok67 Tryz.underlying67 Tryz.tsize83 Tryz.tagg83 Tryz.tbytes83 Tryz.tzero83 Tryz.underlying83 Tryz.tsize84 Tryz.tagg84 Tryz.tbytes84 Tryz.tzero84 Tryz.fok84 Tryz.underlying84 Tryz.tsize85 Tryz.tagg85 Tryz.tbytes85 Tryz.tzero85 Tryz.fok85 Tryz.underlying85 Tryz.tsize102 Tryz.tagg102 Tryz.tbytes102 Tryz.tzero102 Tryz.underlying102 Tryz.tsize104 Tryz.tagg104 Tryz.tbytes104 Tryz.tzero104 Tryz.underlying104 Tryz.tsize113 Tryz.tagg113 Tryz.tbytes113 Tryz.tzero113 Tryz.underlying113 Tryz.tsize129 Tryz.tagg129 Tryz.tbytes129 Tryz.tzero129 Tryz.underlying129
theorem Tryz.pf : PF Tryz.prog := ⟨by kernel_rfl⟩
end Go.Proofs.YtgpflkmelindfaaGreat
