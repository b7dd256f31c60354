/- Contracts of functions that the laws of this seat call. -/
import Derived.Test.YtgpflkmelindfaaEvB
import Derived.Test.YtgpflkmelindfaaProg
import Derived.KernelRfl
set_option linter.all false
namespace Go.Proofs.Ytgpflkmelindfaa
open Go Go.Ev Go.RowKit
theorem Try.tsize2 : tsize Try.prog 2 = some 1 := by kernel_rfl
theorem Try.tagg2 : tagg Try.prog 2 = some false := by kernel_rfl
theorem Try.tbytes2 : tbytes Try.prog 2 = some 8 := by kernel_rfl
theorem Try.tzero2 : tzero Try.prog 2 = some (.int .i64 (0)) := by kernel_rfl
theorem Try.tsize3 : tsize Try.prog 3 = some 1 := by kernel_rfl
theorem Try.tagg3 : tagg Try.prog 3 = some false := by kernel_rfl
theorem Try.tbytes3 : tbytes Try.prog 3 = some 8 := by kernel_rfl
theorem Try.tzero3 : tzero Try.prog 3 = some (.int .i64 (0)) := by kernel_rfl
theorem Try.tsize4 : tsize Try.prog 4 = some 1 := by kernel_rfl
theorem Try.tagg4 : tagg Try.prog 4 = some false := by kernel_rfl
theorem Try.tbytes4 : tbytes Try.prog 4 = some 1 := by kernel_rfl
theorem Try.tzero4 : tzero Try.prog 4 = some (.bool false) := by kernel_rfl
theorem Try.tsize5 : tsize Try.prog 5 = some 1 := by kernel_rfl
theorem Try.tagg5 : tagg Try.prog 5 = some false := by kernel_rfl
theorem Try.tbytes5 : tbytes Try.prog 5 = some 1 := by kernel_rfl
theorem Try.tzero5 : tzero Try.prog 5 = some (.int .u8 (0)) := by kernel_rfl
theorem Try.tsize6 : tsize Try.prog 6 = some 1 := by kernel_rfl
theorem Try.tagg6 : tagg Try.prog 6 = some false := by kernel_rfl
theorem Try.tbytes6 : tbytes Try.prog 6 = some 1 := by kernel_rfl
theorem Try.tzero6 : tzero Try.prog 6 = some (.int .u8 (0)) := by kernel_rfl
theorem Try.tsize7 : tsize Try.prog 7 = some 4 := by kernel_rfl
theorem Try.tagg7 : tagg Try.prog 7 = some true := by kernel_rfl
theorem Try.tbytes7 : tbytes Try.prog 7 = some 24 := by kernel_rfl
theorem Try.tzero7 : tzero Try.prog 7 = some (.agg [.int .i64 (0), .int .i64 (0), .bool false, .int .u8 (0)]) := by kernel_rfl
theorem Try.fok7 : fieldsOK Try.prog 7 = true := by kernel_rfl
theorem Try.tsize8 : tsize Try.prog 8 = some 4 := by kernel_rfl
theorem Try.tagg8 : tagg Try.prog 8 = some true := by kernel_rfl
theorem Try.tbytes8 : tbytes Try.prog 8 = some 24 := by kernel_rfl
theorem Try.tzero8 : tzero Try.prog 8 = some (.agg [.int .i64 (0), .int .i64 (0), .bool false, .int .u8 (0)]) := by kernel_rfl
theorem Try.fok8 : fieldsOK Try.prog 8 = true := by kernel_rfl
theorem Try.tsize9 : tsize Try.prog 9 = some 1 := by kernel_rfl
theorem Try.tagg9 : tagg Try.prog 9 = some false := by kernel_rfl
theorem Try.tbytes9 : tbytes Try.prog 9 = some 16 := by kernel_rfl
theorem Try.tzero9 : tzero Try.prog 9 = some (.str ByteArray.empty) := by kernel_rfl
theorem Try.tsize10 : tsize Try.prog 10 = some 1 := by kernel_rfl
theorem Try.tagg10 : tagg Try.prog 10 = some false := by kernel_rfl
theorem Try.tbytes10 : tbytes Try.prog 10 = some 16 := by kernel_rfl
theorem Try.tzero10 : tzero Try.prog 10 = some (.str ByteArray.empty) := by kernel_rfl
theorem Try.tsize11 : tsize Try.prog 11 = some 1 := by kernel_rfl
theorem Try.tagg11 : tagg Try.prog 11 = some false := by kernel_rfl
theorem Try.tbytes11 : tbytes Try.prog 11 = some 16 := by kernel_rfl
theorem Try.tzero11 : tzero Try.prog 11 = some (.str ByteArray.empty) := by kernel_rfl
theorem Try.tsize12 : tsize Try.prog 12 = some 1 := by kernel_rfl
theorem Try.tagg12 : tagg Try.prog 12 = some false := by kernel_rfl
theorem Try.tbytes12 : tbytes Try.prog 12 = some 8 := by kernel_rfl
theorem Try.tzero12 : tzero Try.prog 12 = some (.int .u64 (0)) := by kernel_rfl
theorem Try.tsize13 : tsize Try.prog 13 = some 2 := by kernel_rfl
theorem Try.tagg13 : tagg Try.prog 13 = some true := by kernel_rfl
theorem Try.tbytes13 : tbytes Try.prog 13 = some 24 := by kernel_rfl
theorem Try.tzero13 : tzero Try.prog 13 = some (.agg [.str ByteArray.empty, .int .u64 (0)]) := by kernel_rfl
theorem Try.fok13 : fieldsOK Try.prog 13 = true := by kernel_rfl
theorem Try.tsize14 : tsize Try.prog 14 = some 2 := by kernel_rfl
theorem Try.tagg14 : tagg Try.prog 14 = some true := by kernel_rfl
theorem Try.tbytes14 : tbytes Try.prog 14 = some 24 := by kernel_rfl
theorem Try.tzero14 : tzero Try.prog 14 = some (.agg [.str ByteArray.empty, .int .u64 (0)]) := by kernel_rfl
theorem Try.fok14 : fieldsOK Try.prog 14 = true := by kernel_rfl
theorem Try.tsize15 : tsize Try.prog 15 = some 1 := by kernel_rfl
theorem Try.tagg15 : tagg Try.prog 15 = some false := by kernel_rfl
theorem Try.tbytes15 : tbytes Try.prog 15 = some 8 := by kernel_rfl
theorem Try.tzero15 : tzero Try.prog 15 = some (.nilP) := by kernel_rfl
theorem Try.tsize16 : tsize Try.prog 16 = some 1 := by kernel_rfl
theorem Try.tagg16 : tagg Try.prog 16 = some false := by kernel_rfl
theorem Try.tbytes16 : tbytes Try.prog 16 = some 8 := by kernel_rfl
theorem Try.tzero16 : tzero Try.prog 16 = some (.nilP) := by kernel_rfl
theorem Try.tsize17 : tsize Try.prog 17 = some 1 := by kernel_rfl
theorem Try.tagg17 : tagg Try.prog 17 = some false := by kernel_rfl
theorem Try.tbytes17 : tbytes Try.prog 17 = some 8 := by kernel_rfl
theorem Try.tzero17 : tzero Try.prog 17 = some (.nilP) := by kernel_rfl
theorem Try.tsize18 : tsize Try.prog 18 = some 1 := by kernel_rfl
theorem Try.tagg18 : tagg Try.prog 18 = some true := by kernel_rfl
theorem Try.tbytes18 : tbytes Try.prog 18 = some 8 := by kernel_rfl
theorem Try.tzero18 : tzero Try.prog 18 = some (.agg [.nilP]) := by kernel_rfl
theorem Try.fok18 : fieldsOK Try.prog 18 = true := by kernel_rfl
theorem Try.tsize19 : tsize Try.prog 19 = some 1 := by kernel_rfl
theorem Try.tagg19 : tagg Try.prog 19 = some true := by kernel_rfl
theorem Try.tbytes19 : tbytes Try.prog 19 = some 8 := by kernel_rfl
theorem Try.tzero19 : tzero Try.prog 19 = some (.agg [.nilP]) := by kernel_rfl
theorem Try.fok19 : fieldsOK Try.prog 19 = true := by kernel_rfl
theorem Try.tsize21 : tsize Try.prog 21 = some 1 := by kernel_rfl
theorem Try.tagg21 : tagg Try.prog 21 = some false := by kernel_rfl
theorem Try.tbytes21 : tbytes Try.prog 21 = some 4 := by kernel_rfl
theorem Try.tzero21 : tzero Try.prog 21 = some (.int .i32 (0)) := by kernel_rfl
theorem Try.tsize22 : tsize Try.prog 22 = some 1 := by kernel_rfl
theorem Try.tagg22 : tagg Try.prog 22 = some false := by kernel_rfl
theorem Try.tbytes22 : tbytes Try.prog 22 = some 24 := by kernel_rfl
theorem Try.tzero22 : tzero Try.prog 22 = some (.nilS) := by kernel_rfl
theorem Try.tsize23 : tsize Try.prog 23 = some 1 := by kernel_rfl
theorem Try.tagg23 : tagg Try.prog 23 = some false := by kernel_rfl
theorem Try.tbytes23 : tbytes Try.prog 23 = some 24 := by kernel_rfl
theorem Try.tzero23 : tzero Try.prog 23 = some (.nilS) := by kernel_rfl
theorem Try.tsize24 : tsize Try.prog 24 = some 3 := by kernel_rfl
theorem Try.tagg24 : tagg Try.prog 24 = some true := by kernel_rfl
theorem Try.tbytes24 : tbytes Try.prog 24 = some 56 := by kernel_rfl
theorem Try.tzero24 : tzero Try.prog 24 = some (.agg [.int .i64 (0), .nilS, .nilS]) := by kernel_rfl
theorem Try.fok24 : fieldsOK Try.prog 24 = true := by kernel_rfl
theorem Try.tsize25 : tsize Try.prog 25 = some 3 := by kernel_rfl
theorem Try.tagg25 : tagg Try.prog 25 = some true := by kernel_rfl
theorem Try.tbytes25 : tbytes Try.prog 25 = some 56 := by kernel_rfl
theorem Try.tzero25 : tzero Try.prog 25 = some (.agg [.int .i64 (0), .nilS, .nilS]) := by kernel_rfl
theorem Try.fok25 : fieldsOK Try.prog 25 = true := by kernel_rfl
theorem Try.tsize43 : tsize Try.prog 43 = some 1 := by kernel_rfl
theorem Try.tagg43 : tagg Try.prog 43 = some false := by kernel_rfl
theorem Try.tbytes43 : tbytes Try.prog 43 = some 24 := by kernel_rfl
theorem Try.tzero43 : tzero Try.prog 43 = some (.nilS) := by kernel_rfl
theorem Try.tsize51 : tsize Try.prog 51 = some 3 := by kernel_rfl
theorem Try.tagg51 : tagg Try.prog 51 = some true := by kernel_rfl
theorem Try.tbytes51 : tbytes Try.prog 51 = some 24 := by kernel_rfl
theorem Try.tzero51 : tzero Try.prog 51 = some (.agg [.int .i64 (0), .int .i64 (0), .int .i64 (0)]) := by kernel_rfl
theorem Try.fok51 : fieldsOK Try.prog 51 = true := by kernel_rfl
theorem Try.tsize52 : tsize Try.prog 52 = some 3 := by kernel_rfl
theorem Try.tagg52 : tagg Try.prog 52 = some true := by kernel_rfl
theorem Try.tbytes52 : tbytes Try.prog 52 = some 24 := by kernel_rfl
theorem Try.tzero52 : tzero Try.prog 52 = some (.agg [.int .i64 (0), .int .i64 (0), .int .i64 (0)]) := by kernel_rfl
theorem Try.fok52 : fieldsOK Try.prog 52 = true := by kernel_rfl
theorem Try.tsize58 : tsize Try.prog 58 = some 5 := by kernel_rfl
theorem Try.tagg58 : tagg Try.prog 58 = some true := by kernel_rfl
theorem Try.tbytes58 : tbytes Try.prog 58 = some 32 := by kernel_rfl
theorem Try.tzero58 : tzero Try.prog 58 = some (.agg [.int .i64 (0), .int .i64 (0), .int .i64 (0), .bool false, .bool false]) := by kernel_rfl
theorem Try.fok58 : fieldsOK Try.prog 58 = true := by kernel_rfl
theorem Try.tsize59 : tsize Try.prog 59 = some 5 := by kernel_rfl
theorem Try.tagg59 : tagg Try.prog 59 = some true := by kernel_rfl
theorem Try.tbytes59 : tbytes Try.prog 59 = some 32 := by kernel_rfl
theorem Try.tzero59 : tzero Try.prog 59 = some (.agg [.int .i64 (0), .int .i64 (0), .int .i64 (0), .bool false, .bool false]) := by kernel_rfl
theorem Try.fok59 : fieldsOK Try.prog 59 = true := by kernel_rfl
theorem Try.tsize69 : tsize Try.prog 69 = some 1 := by kernel_rfl
theorem Try.tagg69 : tagg Try.prog 69 = some false := by kernel_rfl
theorem Try.tbytes69 : tbytes Try.prog 69 = some 8 := by kernel_rfl
theorem Try.tzero69 : tzero Try.prog 69 = some (.nilP) := by kernel_rfl
theorem Try.tsize94 : tsize Try.prog 94 = some 2 := by kernel_rfl
theorem Try.tagg94 : tagg Try.prog 94 = some true := by kernel_rfl
theorem Try.tbytes94 : tbytes Try.prog 94 = some 32 := by kernel_rfl
theorem Try.tzero94 : tzero Try.prog 94 = some (.agg [.nilS, .int .i64 (0)]) := by kernel_rfl
theorem Try.fok94 : fieldsOK Try.prog 94 = true := by kernel_rfl
theorem Try.tsize95 : tsize Try.prog 95 = some 2 := by kernel_rfl
theorem Try.tagg95 : tagg Try.prog 95 = some true := by kernel_rfl
theorem Try.tbytes95 : tbytes Try.prog 95 = some 32 := by kernel_rfl
theorem Try.tzero95 : tzero Try.prog 95 = some (.agg [.nilS, .int .i64 (0)]) := by kernel_rfl
theorem Try.fok95 : fieldsOK Try.prog 95 = true := by kernel_rfl
theorem Try.tsize100 : tsize Try.prog 100 = some 1 := by kernel_rfl
theorem Try.tagg100 : tagg Try.prog 100 = some false := by kernel_rfl
theorem Try.tbytes100 : tbytes Try.prog 100 = some 24 := by kernel_rfl
theorem Try.tzero100 : tzero Try.prog 100 = some (.nilS) := by kernel_rfl
theorem Try.tsize105 : tsize Try.prog 105 = some 1 := by kernel_rfl
theorem Try.tagg105 : tagg Try.prog 105 = some false := by kernel_rfl
theorem Try.tbytes105 : tbytes Try.prog 105 = some 8 := by kernel_rfl
theorem Try.tzero105 : tzero Try.prog 105 = some (.int .u64 (0)) := by kernel_rfl
theorem Try.tsize114 : tsize Try.prog 114 = some 1 := by kernel_rfl
theorem Try.tagg114 : tagg Try.prog 114 = some false := by kernel_rfl
theorem Try.tbytes114 : tbytes Try.prog 114 = some 8 := by kernel_rfl
theorem Try.tzero114 : tzero Try.prog 114 = some (.int .i64 (0)) := by kernel_rfl
theorem Try.tsize121 : tsize Try.prog 121 = some 1 := by kernel_rfl
theorem Try.tagg121 : tagg Try.prog 121 = some false := by kernel_rfl
theorem Try.tbytes121 : tbytes Try.prog 121 = some 4 := by kernel_rfl
theorem Try.tzero121 : tzero Try.prog 121 = some (.int .u32 (0)) := by kernel_rfl
theorem Try.tsize123 : tsize Try.prog 123 = some 1 := by kernel_rfl
theorem Try.tagg123 : tagg Try.prog 123 = some false := by kernel_rfl
theorem Try.tbytes123 : tbytes Try.prog 123 = some 8 := by kernel_rfl
theorem Try.tzero123 : tzero Try.prog 123 = some (.int .u64 (0)) := by kernel_rfl
theorem Try.tsize126 : tsize Try.prog 126 = some 1 := by kernel_rfl
theorem Try.tagg126 : tagg Try.prog 126 = some false := by kernel_rfl
theorem Try.tbytes126 : tbytes Try.prog 126 = some 8 := by kernel_rfl
theorem Try.tzero126 : tzero Try.prog 126 = some (.int .u64 (0)) := by kernel_rfl
theorem Try.tsize130 : tsize Try.prog 130 = some 1 := by kernel_rfl
theorem Try.tagg130 : tagg Try.prog 130 = some false := by kernel_rfl
theorem Try.tbytes130 : tbytes Try.prog 130 = some 8 := by kernel_rfl
theorem Try.tzero130 : tzero Try.prog 130 = some (.nilP) := by kernel_rfl
theorem Try.tsize132 : tsize Try.prog 132 = some 1 := by kernel_rfl
theorem Try.tagg132 : tagg Try.prog 132 = some false := by kernel_rfl
theorem Try.tbytes132 : tbytes Try.prog 132 = some 8 := by kernel_rfl
theorem Try.tzero132 : tzero Try.prog 132 = some (.nilP) := by kernel_rfl
theorem Try.tsize136 : tsize Try.prog 136 = some 4 := by kernel_rfl
theorem Try.tagg136 : tagg Try.prog 136 = some true := by kernel_rfl
theorem Try.tbytes136 : tbytes Try.prog 136 = some 40 := by kernel_rfl
theorem Try.tzero136 : tzero Try.prog 136 = some (.agg [.nilP, .nilP, .nilP, .str ByteArray.empty]) := by kernel_rfl
theorem Try.fok136 : fieldsOK Try.prog 136 = true := by kernel_rfl
theorem Try.tsize137 : tsize Try.prog 137 = some 4 := by kernel_rfl
theorem Try.tagg137 : tagg Try.prog 137 = some true := by kernel_rfl
theorem Try.tbytes137 : tbytes Try.prog 137 = some 40 := by kernel_rfl
theorem Try.tzero137 : tzero Try.prog 137 = some (.agg [.nilP, .nilP, .nilP, .str ByteArray.empty]) := by kernel_rfl
theorem Try.fok137 : fieldsOK Try.prog 137 = true := by kernel_rfl
theorem Try.tsize138 : tsize Try.prog 138 = some 0 := by kernel_rfl
theorem Try.tagg138 : tagg Try.prog 138 = some true := by kernel_rfl
theorem Try.tbytes138 : tbytes Try.prog 138 = some 0 := by kernel_rfl
theorem Try.tzero138 : tzero Try.prog 138 = some (.agg []) := by kernel_rfl
theorem Try.tsize139 : tsize Try.prog 139 = some 0 := by kernel_rfl
theorem Try.tagg139 : tagg Try.prog 139 = some true := by kernel_rfl
theorem Try.tbytes139 : tbytes Try.prog 139 = some 0 := by kernel_rfl
theorem Try.tzero139 : tzero Try.prog 139 = some (.agg []) := by kernel_rfl
theorem Try.fok139 : fieldsOK Try.prog 139 = true := by kernel_rfl
theorem Try.tsize140 : tsize Try.prog 140 = some 0 := by kernel_rfl
theorem Try.tagg140 : tagg Try.prog 140 = some true := by kernel_rfl
theorem Try.tbytes140 : tbytes Try.prog 140 = some 0 := by kernel_rfl
theorem Try.tzero140 : tzero Try.prog 140 = some (.agg []) := by kernel_rfl
theorem Try.fok140 : fieldsOK Try.prog 140 = true := by kernel_rfl
theorem Try.tsize142 : tsize Try.prog 142 = some 1 := by kernel_rfl
theorem Try.tagg142 : tagg Try.prog 142 = some false := by kernel_rfl
theorem Try.tbytes142 : tbytes Try.prog 142 = some 1 := by kernel_rfl
theorem Try.tzero142 : tzero Try.prog 142 = some (.int .u8 (0)) := by kernel_rfl
theorem Try.tsize143 : tsize Try.prog 143 = some 1 := by kernel_rfl
theorem Try.tagg143 : tagg Try.prog 143 = some false := by kernel_rfl
theorem Try.tbytes143 : tbytes Try.prog 143 = some 1 := by kernel_rfl
theorem Try.tzero143 : tzero Try.prog 143 = some (.int .u8 (0)) := by kernel_rfl
theorem Try.tsize145 : tsize Try.prog 145 = some 1 := by kernel_rfl
theorem Try.tagg145 : tagg Try.prog 145 = some false := by kernel_rfl
theorem Try.tbytes145 : tbytes Try.prog 145 = some 8 := by kernel_rfl
theorem Try.tzero145 : tzero Try.prog 145 = some (.nilP) := by kernel_rfl
theorem Try.tsize146 : tsize Try.prog 146 = some 1 := by kernel_rfl
theorem Try.tagg146 : tagg Try.prog 146 = some false := by kernel_rfl
theorem Try.tbytes146 : tbytes Try.prog 146 = some 4 := by kernel_rfl
theorem Try.tzero146 : tzero Try.prog 146 = some (.int .i32 (0)) := by kernel_rfl
theorem Try.tsize147 : tsize Try.prog 147 = some 1 := by kernel_rfl
theorem Try.tagg147 : tagg Try.prog 147 = some false := by kernel_rfl
theorem Try.tbytes147 : tbytes Try.prog 147 = some 4 := by kernel_rfl
theorem Try.tzero147 : tzero Try.prog 147 = some (.int .i32 (0)) := by kernel_rfl
theorem Try.tsize148 : tsize Try.prog 148 = some 11 := by kernel_rfl
theorem Try.tagg148 : tagg Try.prog 148 = some true := by kernel_rfl
theorem Try.tbytes148 : tbytes Try.prog 148 = some 48 := by kernel_rfl
theorem Try.tzero148 : tzero Try.prog 148 = some (.agg [.int .u64 (0), .int .u64 (0), .int .u32 (0), .int .u8 (0), .int .u8 (0), .int .u8 (0), .int .u8 (0), .any, .nilP, .int .i32 (0), .int .i32 (0)]) := by kernel_rfl
theorem Try.fok148 : fieldsOK Try.prog 148 = true := by kernel_rfl
theorem Try.tsize149 : tsize Try.prog 149 = some 11 := by kernel_rfl
theorem Try.tagg149 : tagg Try.prog 149 = some true := by kernel_rfl
theorem Try.tbytes149 : tbytes Try.prog 149 = some 48 := by kernel_rfl
theorem Try.tzero149 : tzero Try.prog 149 = some (.agg [.int .u64 (0), .int .u64 (0), .int .u32 (0), .int .u8 (0), .int .u8 (0), .int .u8 (0), .int .u8 (0), .any, .nilP, .int .i32 (0), .int .i32 (0)]) := by kernel_rfl
theorem Try.fok149 : fieldsOK Try.prog 149 = true := by kernel_rfl
attribute [go_sem] Try.tsize2 Try.tagg2 Try.tbytes2 Try.tzero2 Try.underlying2 Try.tsize3 Try.tagg3 Try.tbytes3 Try.tzero3 Try.underlying3 Try.tsize4 Try.tagg4 Try.tbytes4 Try.tzero4 Try.underlying4 Try.tsize5 Try.tagg5 Try.tbytes5 Try.tzero5 Try.underlying5 Try.tsize9 Try.tagg9 Try.tbytes9 Try.tzero9 Try.underlying9 Try.tsize21 Try.tagg21 Try.tbytes21 Try.tzero21 Try.underlying21 Try.tsize22 Try.tagg22 Try.tbytes22 Try.tzero22 Try.underlying22 Try.tsize23 Try.tagg23 Try.tbytes23 Try.tzero23 Try.underlying23 Try.tsize24 Try.tagg24 Try.tbytes24 Try.tzero24 Try.fok24 Try.underlying24 Try.tsize25 Try.tagg25 Try.tbytes25 Try.tzero25 Try.fok25 Try.underlying25 Try.tsize43 Try.tagg43 Try.tbytes43 Try.tzero43 Try.underlying43 Try.tsize51 Try.tagg51 Try.tbytes51 Try.tzero51 Try.fok51 Try.underlying51 Try.tsize52 Try.tagg52 Try.tbytes52 Try.tzero52 Try.fok52 Try.underlying52 Try.tsize58 Try.tagg58 Try.tbytes58 Try.tzero58 Try.fok58 Try.underlying58 Try.tsize59 Try.tagg59 Try.tbytes59 Try.tzero59 Try.fok59 Try.underlying59 Try.tsize69 Try.tagg69 Try.tbytes69 Try.tzero69 Try.underlying69 Try.tsize94 Try.tagg94 Try.tbytes94 Try.tzero94 Try.fok94 Try.underlying94 Try.tsize95 Try.tagg95 Try.tbytes95 Try.tzero95 Try.fok95 Try.underlying95 Try.tsize100 Try.tagg100 Try.tbytes100 Try.tzero100 Try.underlying100 Try.tsize105 Try.tagg105 Try.tbytes105 Try.tzero105 Try.underlying105 Try.tsize121 Try.tagg121 Try.tbytes121 Try.tzero121 Try.underlying121 Try.tsize123 Try.tagg123 Try.tbytes123 Try.tzero123 Try.underlying123 Try.tsize130 Try.tagg130 Try.tbytes130 Try.tzero130 Try.underlying130 Try.tsize145 Try.tagg145 Try.tbytes145 Try.tzero145 Try.underlying145
theorem Try.pf : PF Try.prog := ⟨by kernel_rfl⟩
end Go.Proofs.Ytgpflkmelindfaa
