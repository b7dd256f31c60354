/- Contracts of functions that the laws of this seat call. -/
import Derived.Test.YtgepbcakcjdmoaaEvB
import Derived.Test.YtgepbcakcjdmoaaProg
import Derived.KernelRfl
set_option linter.all false
namespace Go.Proofs.Ytgepbcakcjdmoaa
open Go Go.Ev Go.RowKit
theorem Try.tsize2 : tsize Try.prog 2 = some 1 := by kernel_rfl
theorem Try.tagg2 : tagg Try.prog 2 = some false := by kernel_rfl
theorem Try.tbytes2 : tbytes Try.prog 2 = some 8 := by kernel_rfl
theorem Try.tzero2 : tzero Try.prog 2 = some (.int .i64 (0)) := by kernel_rfl
theorem Try.tsize3 : tsize Try.prog 3 = some 1 := by kernel_rfl
theorem Try.tagg3 : tagg Try.prog 3 = some false := by kernel_rfl
theorem Try.tbytes3 : tbytes Try.prog 3 = some 8 := by kernel_rfl
theorem Try.tzero3 : tzero Try.prog 3 = some (.int .i64 (0)) := by kernel_rfl
theorem Try.tsize4 : tsize Try.prog 4 = some 1 := by kernel_rfl
theorem Try.tagg4 : tagg Try.prog 4 = some false := by kernel_rfl
theorem Try.tbytes4 : tbytes Try.prog 4 = some 1 := by kernel_rfl
theorem Try.tzero4 : tzero Try.prog 4 = some (.bool false) := by kernel_rfl
theorem Try.tsize5 : tsize Try.prog 5 = some 1 := by kernel_rfl
theorem Try.tagg5 : tagg Try.prog 5 = some false := by kernel_rfl
theorem Try.tbytes5 : tbytes Try.prog 5 = some 1 := by kernel_rfl
theorem Try.tzero5 : tzero Try.prog 5 = some (.int .u8 (0)) := by kernel_rfl
theorem Try.tsize6 : tsize Try.prog 6 = some 1 := by kernel_rfl
theorem Try.tagg6 : tagg Try.prog 6 = some false := by kernel_rfl
theorem Try.tbytes6 : tbytes Try.prog 6 = some 1 := by kernel_rfl
theorem Try.tzero6 : tzero Try.prog 6 = some (.int .u8 (0)) := by kernel_rfl
theorem Try.tsize7 : tsize Try.prog 7 = some 4 := by kernel_rfl
theorem Try.tagg7 : tagg Try.prog 7 = some true := by kernel_rfl
theorem Try.tbytes7 : tbytes Try.prog 7 = some 24 := by kernel_rfl
theorem Try.tzero7 : tzero Try.prog 7 = some (.agg [.int .i64 (0), .int .i64 (0), .bool false, .int .u8 (0)]) := by kernel_rfl
theorem Try.fok7 : fieldsOK Try.prog 7 = true := by kernel_rfl
theorem Try.tsize8 : tsize Try.prog 8 = some 4 := by kernel_rfl
theorem Try.tagg8 : tagg Try.prog 8 = some true := by kernel_rfl
theorem Try.tbytes8 : tbytes Try.prog 8 = some 24 := by kernel_rfl
theorem Try.tzero8 : tzero Try.prog 8 = some (.agg [.int .i64 (0), .int .i64 (0), .bool false, .int .u8 (0)]) := by kernel_rfl
theorem Try.fok8 : fieldsOK Try.prog 8 = true := by kernel_rfl
theorem Try.tsize9 : tsize Try.prog 9 = some 1 := by kernel_rfl
theorem Try.tagg9 : tagg Try.prog 9 = some false := by kernel_rfl
theorem Try.tbytes9 : tbytes Try.prog 9 = some 16 := by kernel_rfl
theorem Try.tzero9 : tzero Try.prog 9 = some (.str ByteArray.empty) := by kernel_rfl
theorem Try.tsize10 : tsize Try.prog 10 = some 1 := by kernel_rfl
theorem Try.tagg10 : tagg Try.prog 10 = some false := by kernel_rfl
theorem Try.tbytes10 : tbytes Try.prog 10 = some 16 := by kernel_rfl
theorem Try.tzero10 : tzero Try.prog 10 = some (.str ByteArray.empty) := by kernel_rfl
theorem Try.tsize11 : tsize Try.prog 11 = some 1 := by kernel_rfl
theorem Try.tagg11 : tagg Try.prog 11 = some false := by kernel_rfl
theorem Try.tbytes11 : tbytes Try.prog 11 = some 16 := by kernel_rfl
theorem Try.tzero11 : tzero Try.prog 11 = some (.str ByteArray.empty) := by kernel_rfl
theorem Try.tsize12 : tsize Try.prog 12 = some 1 := by kernel_rfl
theorem Try.tagg12 : tagg Try.prog 12 = some false := by kernel_rfl
theorem Try.tbytes12 : tbytes Try.prog 12 = some 8 := by kernel_rfl
theorem Try.tzero12 : tzero Try.prog 12 = some (.int .u64 (0)) := by kernel_rfl
theorem Try.tsize13 : tsize Try.prog 13 = some 2 := by kernel_rfl
theorem Try.tagg13 : tagg Try.prog 13 = some true := by kernel_rfl
theorem Try.tbytes13 : tbytes Try.prog 13 = some 24 := by kernel_rfl
theorem Try.tzero13 : tzero Try.prog 13 = some (.agg [.str ByteArray.empty, .int .u64 (0)]) := by kernel_rfl
theorem Try.fok13 : fieldsOK Try.prog 13 = true := by kernel_rfl
theorem Try.tsize14 : tsize Try.prog 14 = some 2 := by kernel_rfl
theorem Try.tagg14 : tagg Try.prog 14 = some true := by kernel_rfl
theorem Try.tbytes14 : tbytes Try.prog 14 = some 24 := by kernel_rfl
theorem Try.tzero14 : tzero Try.prog 14 = some (.agg [.str ByteArray.empty, .int .u64 (0)]) := by kernel_rfl
theorem Try.fok14 : fieldsOK Try.prog 14 = true := by kernel_rfl
theorem Try.tsize15 : tsize Try.prog 15 = some 1 := by kernel_rfl
theorem Try.tagg15 : tagg Try.prog 15 = some false := by kernel_rfl
theorem Try.tbytes15 : tbytes Try.prog 15 = some 8 := by kernel_rfl
theorem Try.tzero15 : tzero Try.prog 15 = some (.nilP) := by kernel_rfl
theorem Try.tsize16 : tsize Try.prog 16 = some 1 := by kernel_rfl
theorem Try.tagg16 : tagg Try.prog 16 = some false := by kernel_rfl
theorem Try.tbytes16 : tbytes Try.prog 16 = some 8 := by kernel_rfl
theorem Try.tzero16 : tzero Try.prog 16 = some (.nilP) := by kernel_rfl
theorem Try.tsize17 : tsize Try.prog 17 = some 1 := by kernel_rfl
theorem Try.tagg17 : tagg Try.prog 17 = some false := by kernel_rfl
theorem Try.tbytes17 : tbytes Try.prog 17 = some 8 := by kernel_rfl
theorem Try.tzero17 : tzero Try.prog 17 = some (.nilP) := by kernel_rfl
theorem Try.tsize18 : tsize Try.prog 18 = some 1 := by kernel_rfl
theorem Try.tagg18 : tagg Try.prog 18 = some true := by kernel_rfl
theorem Try.tbytes18 : tbytes Try.prog 18 = some 8 := by kernel_rfl
theorem Try.tzero18 : tzero Try.prog 18 = some (.agg [.nilP]) := by kernel_rfl
theorem Try.fok18 : fieldsOK Try.prog 18 = true := by kernel_rfl
theorem Try.tsize19 : tsize Try.prog 19 = some 1 := by kernel_rfl
theorem Try.tagg19 : tagg Try.prog 19 = some true := by kernel_rfl
theorem Try.tbytes19 : tbytes Try.prog 19 = some 8 := by kernel_rfl
theorem Try.tzero19 : tzero Try.prog 19 = some (.agg [.nilP]) := by kernel_rfl
theorem Try.fok19 : fieldsOK Try.prog 19 = true := by kernel_rfl
theorem Try.tsize21 : tsize Try.prog 21 = some 1 := by kernel_rfl
theorem Try.tagg21 : tagg Try.prog 21 = some false := by kernel_rfl
theorem Try.tbytes21 : tbytes Try.prog 21 = some 4 := by kernel_rfl
theorem Try.tzero21 : tzero Try.prog 21 = some (.int .i32 (0)) := by kernel_rfl
theorem Try.tsize22 : tsize Try.prog 22 = some 1 := by kernel_rfl
theorem Try.tagg22 : tagg Try.prog 22 = some false := by kernel_rfl
theorem Try.tbytes22 : tbytes Try.prog 22 = some 24 := by kernel_rfl
theorem Try.tzero22 : tzero Try.prog 22 = some (.nilS) := by kernel_rfl
theorem Try.tsize23 : tsize Try.prog 23 = some 1 := by kernel_rfl
theorem Try.tagg23 : tagg Try.prog 23 = some false := by kernel_rfl
theorem Try.tbytes23 : tbytes Try.prog 23 = some 24 := by kernel_rfl
theorem Try.tzero23 : tzero Try.prog 23 = some (.nilS) := by kernel_rfl
theorem Try.tsize24 : tsize Try.prog 24 = some 3 := by kernel_rfl
theorem Try.tagg24 : tagg Try.prog 24 = some true := by kernel_rfl
theorem Try.tbytes24 : tbytes Try.prog 24 = some 56 := by kernel_rfl
theorem Try.tzero24 : tzero Try.prog 24 = some (.agg [.int .i64 (0), .nilS, .nilS]) := by kernel_rfl
theorem Try.fok24 : fieldsOK Try.prog 24 = true := by kernel_rfl
theorem Try.tsize25 : tsize Try.prog 25 = some 3 := by kernel_rfl
theorem Try.tagg25 : tagg Try.prog 25 = some true := by kernel_rfl
theorem Try.tbytes25 : tbytes Try.prog 25 = some 56 := by kernel_rfl
theorem Try.tzero25 : tzero Try.prog 25 = some (.agg [.int .i64 (0), .nilS, .nilS]) := by kernel_rfl
theorem Try.fok25 : fieldsOK Try.prog 25 = true := by kernel_rfl
theorem Try.tsize44 : tsize Try.prog 44 = some 1 := by kernel_rfl
theorem Try.tagg44 : tagg Try.prog 44 = some false := by kernel_rfl
theorem Try.tbytes44 : tbytes Try.prog 44 = some 24 := by kernel_rfl
theorem Try.tzero44 : tzero Try.prog 44 = some (.nilS) := by kernel_rfl
theorem Try.tsize49 : tsize Try.prog 49 = some 1 := by kernel_rfl
theorem Try.tagg49 : tagg Try.prog 49 = some false := by kernel_rfl
theorem Try.tbytes49 : tbytes Try.prog 49 = some 8 := by kernel_rfl
theorem Try.tzero49 : tzero Try.prog 49 = some (.nilP) := by kernel_rfl
theorem Try.tsize60 : tsize Try.prog 60 = some 2 := by kernel_rfl
theorem Try.tagg60 : tagg Try.prog 60 = some true := by kernel_rfl
theorem Try.tbytes60 : tbytes Try.prog 60 = some 32 := by kernel_rfl
theorem Try.tzero60 : tzero Try.prog 60 = some (.agg [.nilS, .int .i64 (0)]) := by kernel_rfl
theorem Try.fok60 : fieldsOK Try.prog 60 = true := by kernel_rfl
theorem Try.tsize61 : tsize Try.prog 61 = some 2 := by kernel_rfl
theorem Try.tagg61 : tagg Try.prog 61 = some true := by kernel_rfl
theorem Try.tbytes61 : tbytes Try.prog 61 = some 32 := by kernel_rfl
theorem Try.tzero61 : tzero Try.prog 61 = some (.agg [.nilS, .int .i64 (0)]) := by kernel_rfl
theorem Try.fok61 : fieldsOK Try.prog 61 = true := by kernel_rfl
theorem Try.tsize70 : tsize Try.prog 70 = some 1 := by kernel_rfl
theorem Try.tagg70 : tagg Try.prog 70 = some false := by kernel_rfl
theorem Try.tbytes70 : tbytes Try.prog 70 = some 8 := by kernel_rfl
theorem Try.tzero70 : tzero Try.prog 70 = some (.int .u64 (0)) := by kernel_rfl
theorem Try.tsize73 : tsize Try.prog 73 = some 5 := by kernel_rfl
theorem Try.tagg73 : tagg Try.prog 73 = some true := by kernel_rfl
theorem Try.tbytes73 : tbytes Try.prog 73 = some 32 := by kernel_rfl
theorem Try.tzero73 : tzero Try.prog 73 = some (.agg [.int .i64 (0), .int .i64 (0), .int .i64 (0), .bool false, .bool false]) := by kernel_rfl
theorem Try.fok73 : fieldsOK Try.prog 73 = true := by kernel_rfl
theorem Try.tsize74 : tsize Try.prog 74 = some 5 := by kernel_rfl
theorem Try.tagg74 : tagg Try.prog 74 = some true := by kernel_rfl
theorem Try.tbytes74 : tbytes Try.prog 74 = some 32 := by kernel_rfl
theorem Try.tzero74 : tzero Try.prog 74 = some (.agg [.int .i64 (0), .int .i64 (0), .int .i64 (0), .bool false, .bool false]) := by kernel_rfl
theorem Try.fok74 : fieldsOK Try.prog 74 = true := by kernel_rfl
theorem Try.tsize77 : tsize Try.prog 77 = some 1 := by kernel_rfl
theorem Try.tagg77 : tagg Try.prog 77 = some false := by kernel_rfl
theorem Try.tbytes77 : tbytes Try.prog 77 = some 24 := by kernel_rfl
theorem Try.tzero77 : tzero Try.prog 77 = some (.nilS) := by kernel_rfl
theorem Try.tsize79 : tsize Try.prog 79 = some 3 := by kernel_rfl
theorem Try.tagg79 : tagg Try.prog 79 = some true := by kernel_rfl
theorem Try.tbytes79 : tbytes Try.prog 79 = some 24 := by kernel_rfl
theorem Try.tzero79 : tzero Try.prog 79 = some (.agg [.int .i64 (0), .int .i64 (0), .int .i64 (0)]) := by kernel_rfl
theorem Try.fok79 : fieldsOK Try.prog 79 = true := by kernel_rfl
theorem Try.tsize80 : tsize Try.prog 80 = some 3 := by kernel_rfl
theorem Try.tagg80 : tagg Try.prog 80 = some true := by kernel_rfl
theorem Try.tbytes80 : tbytes Try.prog 80 = some 24 := by kernel_rfl
theorem Try.tzero80 : tzero Try.prog 80 = some (.agg [.int .i64 (0), .int .i64 (0), .int .i64 (0)]) := by kernel_rfl
theorem Try.fok80 : fieldsOK Try.prog 80 = true := by kernel_rfl
theorem Try.tsize90 : tsize Try.prog 90 = some 1 := by kernel_rfl
theorem Try.tagg90 : tagg Try.prog 90 = some false := by kernel_rfl
theorem Try.tbytes90 : tbytes Try.prog 90 = some 8 := by kernel_rfl
theorem Try.tzero90 : tzero Try.prog 90 = some (.int .i64 (0)) := by kernel_rfl
theorem Try.tsize98 : tsize Try.prog 98 = some 1 := by kernel_rfl
theorem Try.tagg98 : tagg Try.prog 98 = some false := by kernel_rfl
theorem Try.tbytes98 : tbytes Try.prog 98 = some 4 := by kernel_rfl
theorem Try.tzero98 : tzero Try.prog 98 = some (.int .u32 (0)) := by kernel_rfl
theorem Try.tsize100 : tsize Try.prog 100 = some 1 := by kernel_rfl
theorem Try.tagg100 : tagg Try.prog 100 = some false := by kernel_rfl
theorem Try.tbytes100 : tbytes Try.prog 100 = some 8 := by kernel_rfl
theorem Try.tzero100 : tzero Try.prog 100 = some (.int .u64 (0)) := by kernel_rfl
theorem Try.tsize110 : tsize Try.prog 110 = some 1 := by kernel_rfl
theorem Try.tagg110 : tagg Try.prog 110 = some false := by kernel_rfl
theorem Try.tbytes110 : tbytes Try.prog 110 = some 8 := by kernel_rfl
theorem Try.tzero110 : tzero Try.prog 110 = some (.int .u64 (0)) := by kernel_rfl
theorem Try.tsize114 : tsize Try.prog 114 = some 1 := by kernel_rfl
theorem Try.tagg114 : tagg Try.prog 114 = some false := by kernel_rfl
theorem Try.tbytes114 : tbytes Try.prog 114 = some 8 := by kernel_rfl
theorem Try.tzero114 : tzero Try.prog 114 = some (.nilP) := by kernel_rfl
theorem Try.tsize117 : tsize Try.prog 117 = some 1 := by kernel_rfl
theorem Try.tagg117 : tagg Try.prog 117 = some false := by kernel_rfl
theorem Try.tbytes117 : tbytes Try.prog 117 = some 8 := by kernel_rfl
theorem Try.tzero117 : tzero Try.prog 117 = some (.nilP) := by kernel_rfl
theorem Try.tsize121 : tsize Try.prog 121 = some 4 := by kernel_rfl
theorem Try.tagg121 : tagg Try.prog 121 = some true := by kernel_rfl
theorem Try.tbytes121 : tbytes Try.prog 121 = some 40 := by kernel_rfl
theorem Try.tzero121 : tzero Try.prog 121 = some (.agg [.nilP, .nilP, .nilP, .str ByteArray.empty]) := by kernel_rfl
theorem Try.fok121 : fieldsOK Try.prog 121 = true := by kernel_rfl
theorem Try.tsize122 : tsize Try.prog 122 = some 4 := by kernel_rfl
theorem Try.tagg122 : tagg Try.prog 122 = some true := by kernel_rfl
theorem Try.tbytes122 : tbytes Try.prog 122 = some 40 := by kernel_rfl
theorem Try.tzero122 : tzero Try.prog 122 = some (.agg [.nilP, .nilP, .nilP, .str ByteArray.empty]) := by kernel_rfl
theorem Try.fok122 : fieldsOK Try.prog 122 = true := by kernel_rfl
theorem Try.tsize123 : tsize Try.prog 123 = some 0 := by kernel_rfl
theorem Try.tagg123 : tagg Try.prog 123 = some true := by kernel_rfl
theorem Try.tbytes123 : tbytes Try.prog 123 = some 0 := by kernel_rfl
theorem Try.tzero123 : tzero Try.prog 123 = some (.agg []) := by kernel_rfl
theorem Try.tsize124 : tsize Try.prog 124 = some 0 := by kernel_rfl
theorem Try.tagg124 : tagg Try.prog 124 = some true := by kernel_rfl
theorem Try.tbytes124 : tbytes Try.prog 124 = some 0 := by kernel_rfl
theorem Try.tzero124 : tzero Try.prog 124 = some (.agg []) := by kernel_rfl
theorem Try.fok124 : fieldsOK Try.prog 124 = true := by kernel_rfl
theorem Try.tsize125 : tsize Try.prog 125 = some 0 := by kernel_rfl
theorem Try.tagg125 : tagg Try.prog 125 = some true := by kernel_rfl
theorem Try.tbytes125 : tbytes Try.prog 125 = some 0 := by kernel_rfl
theorem Try.tzero125 : tzero Try.prog 125 = some (.agg []) := by kernel_rfl
theorem Try.fok125 : fieldsOK Try.prog 125 = true := by kernel_rfl
theorem Try.tsize127 : tsize Try.prog 127 = some 1 := by kernel_rfl
theorem Try.tagg127 : tagg Try.prog 127 = some false := by kernel_rfl
theorem Try.tbytes127 : tbytes Try.prog 127 = some 1 := by kernel_rfl
theorem Try.tzero127 : tzero Try.prog 127 = some (.int .u8 (0)) := by kernel_rfl
theorem Try.tsize128 : tsize Try.prog 128 = some 1 := by kernel_rfl
theorem Try.tagg128 : tagg Try.prog 128 = some false := by kernel_rfl
theorem Try.tbytes128 : tbytes Try.prog 128 = some 1 := by kernel_rfl
theorem Try.tzero128 : tzero Try.prog 128 = some (.int .u8 (0)) := by kernel_rfl
theorem Try.tsize130 : tsize Try.prog 130 = some 1 := by kernel_rfl
theorem Try.tagg130 : tagg Try.prog 130 = some false := by kernel_rfl
theorem Try.tbytes130 : tbytes Try.prog 130 = some 8 := by kernel_rfl
theorem Try.tzero130 : tzero Try.prog 130 = some (.nilP) := by kernel_rfl
theorem Try.tsize131 : tsize Try.prog 131 = some 1 := by kernel_rfl
theorem Try.tagg131 : tagg Try.prog 131 = some false := by kernel_rfl
theorem Try.tbytes131 : tbytes Try.prog 131 = some 4 := by kernel_rfl
theorem Try.tzero131 : tzero Try.prog 131 = some (.int .i32 (0)) := by kernel_rfl
theorem Try.tsize132 : tsize Try.prog 132 = some 1 := by kernel_rfl
theorem Try.tagg132 : tagg Try.prog 132 = some false := by kernel_rfl
theorem Try.tbytes132 : tbytes Try.prog 132 = some 4 := by kernel_rfl
theorem Try.tzero132 : tzero Try.prog 132 = some (.int .i32 (0)) := by kernel_rfl
theorem Try.tsize133 : tsize Try.prog 133 = some 11 := by kernel_rfl
theorem Try.tagg133 : tagg Try.prog 133 = some true := by kernel_rfl
theorem Try.tbytes133 : tbytes Try.prog 133 = some 48 := by kernel_rfl
theorem Try.tzero133 : tzero Try.prog 133 = some (.agg [.int .u64 (0), .int .u64 (0), .int .u32 (0), .int .u8 (0), .int .u8 (0), .int .u8 (0), .int .u8 (0), .any, .nilP, .int .i32 (0), .int .i32 (0)]) := by kernel_rfl
theorem Try.fok133 : fieldsOK Try.prog 133 = true := by kernel_rfl
theorem Try.tsize134 : tsize Try.prog 134 = some 11 := by kernel_rfl
theorem Try.tagg134 : tagg Try.prog 134 = some true := by kernel_rfl
theorem Try.tbytes134 : tbytes Try.prog 134 = some 48 := by kernel_rfl
theorem Try.tzero134 : tzero Try.prog 134 = some (.agg [.int .u64 (0), .int .u64 (0), .int .u32 (0), .int .u8 (0), .int .u8 (0), .int .u8 (0), .int .u8 (0), .any, .nilP, .int .i32 (0), .int .i32 (0)]) := by kernel_rfl
theorem Try.fok134 : fieldsOK Try.prog 134 = true := by kernel_rfl
attribute [go_sem] Try.tsize2 Try.tagg2 Try.tbytes2 Try.tzero2 Try.underlying2 Try.tsize3 Try.tagg3 Try.tbytes3 Try.tzero3 Try.underlying3 Try.tsize4 Try.tagg4 Try.tbytes4 Try.tzero4 Try.underlying4 Try.tsize5 Try.tagg5 Try.tbytes5 Try.tzero5 Try.underlying5 Try.tsize9 Try.tagg9 Try.tbytes9 Try.tzero9 Try.underlying9 Try.tsize21 Try.tagg21 Try.tbytes21 Try.tzero21 Try.underlying21 Try.tsize22 Try.tagg22 Try.tbytes22 Try.tzero22 Try.underlying22 Try.tsize23 Try.tagg23 Try.tbytes23 Try.tzero23 Try.underlying23 Try.tsize24 Try.tagg24 Try.tbytes24 Try.tzero24 Try.fok24 Try.underlying24 Try.tsize25 Try.tagg25 Try.tbytes25 Try.tzero25 Try.fok25 Try.underlying25 Try.tsize44 Try.tagg44 Try.tbytes44 Try.tzero44 Try.underlying44 Try.tsize49 Try.tagg49 Try.tbytes49 Try.tzero49 Try.underlying49 Try.tsize60 Try.tagg60 Try.tbytes60 Try.tzero60 Try.fok60 Try.underlying60 Try.tsize61 Try.tagg61 Try.tbytes61 Try.tzero61 Try.fok61 Try.underlying61 Try.tsize70 Try.tagg70 Try.tbytes70 Try.tzero70 Try.underlying70 Try.tsize73 Try.tagg73 Try.tbytes73 Try.tzero73 Try.fok73 Try.underlying73 Try.tsize74 Try.tagg74 Try.tbytes74 Try.tzero74 Try.fok74 Try.underlying74 Try.tsize77 Try.tagg77 Try.tbytes77 Try.tzero77 Try.underlying77 Try.tsize79 Try.tagg79 Try.tbytes79 Try.tzero79 Try.fok79 Try.underlying79 Try.tsize80 Try.tagg80 Try.tbytes80 Try.tzero80 Try.fok80 Try.underlying80 Try.tsize98 Try.tagg98 Try.tbytes98 Try.tzero98 Try.underlying98 Try.tsize100 Try.tagg100 Try.tbytes100 Try.tzero100 Try.underlying100 Try.tsize114 Try.tagg114 Try.tbytes114 Try.tzero114 Try.underlying114 Try.tsize130 Try.tagg130 Try.tbytes130 Try.tzero130 Try.underlying130
theorem Try.pf : PF Try.prog := ⟨by kernel_rfl⟩
end Go.Proofs.Ytgepbcakcjdmoaa
