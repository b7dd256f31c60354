/- Contracts of functions that the laws of this seat call. -/
import Derived.Test.YtbibnkgcegbmiaaEvB
import Derived.Test.YtbibnkgcegbmiaaProg
import Derived.KernelRfl
set_option linter.all false
namespace Go.Proofs.Ytbibnkgcegbmiaa
open Go Go.Ev Go.RowKit
theorem Try.tsize2 : tsize Try.prog 2 = some 1 := by kernel_rfl
theorem Try.tagg2 : tagg Try.prog 2 = some false := by kernel_rfl
theorem Try.tbytes2 : tbytes Try.prog 2 = some 8 := by kernel_rfl
theorem Try.tzero2 : tzero Try.prog 2 = some (.int .i64 (0)) := by kernel_rfl
theorem Try.tsize3 : tsize Try.prog 3 = some 1 := by kernel_rfl
theorem Try.tagg3 : tagg Try.prog 3 = some false := by kernel_rfl
theorem Try.tbytes3 : tbytes Try.prog 3 = some 8 := by kernel_rfl
theorem Try.tzero3 : tzero Try.prog 3 = some (.int .i64 (0)) := by kernel_rfl
theorem Try.tsize4 : tsize Try.prog 4 = some 1 := by kernel_rfl
theorem Try.tagg4 : tagg Try.prog 4 = some false := by kernel_rfl
theorem Try.tbytes4 : tbytes Try.prog 4 = some 1 := by kernel_rfl
theorem Try.tzero4 : tzero Try.prog 4 = some (.bool false) := by kernel_rfl
theorem Try.tsize5 : tsize Try.prog 5 = some 1 := by kernel_rfl
theorem Try.tagg5 : tagg Try.prog 5 = some false := by kernel_rfl
theorem Try.tbytes5 : tbytes Try.prog 5 = some 1 := by kernel_rfl
theorem Try.tzero5 : tzero Try.prog 5 = some (.int .u8 (0)) := by kernel_rfl
theorem Try.tsize6 : tsize Try.prog 6 = some 1 := by kernel_rfl
theorem Try.tagg6 : tagg Try.prog 6 = some false := by kernel_rfl
theorem Try.tbytes6 : tbytes Try.prog 6 = some 1 := by kernel_rfl
theorem Try.tzero6 : tzero Try.prog 6 = some (.int .u8 (0)) := by kernel_rfl
theorem Try.tsize7 : tsize Try.prog 7 = some 4 := by kernel_rfl
theorem Try.tagg7 : tagg Try.prog 7 = some true := by kernel_rfl
theorem Try.tbytes7 : tbytes Try.prog 7 = some 24 := by kernel_rfl
theorem Try.tzero7 : tzero Try.prog 7 = some (.agg [.int .i64 (0), .int .i64 (0), .bool false, .int .u8 (0)]) := by kernel_rfl
theorem Try.fok7 : fieldsOK Try.prog 7 = true := by kernel_rfl
theorem Try.tsize8 : tsize Try.prog 8 = some 4 := by kernel_rfl
theorem Try.tagg8 : tagg Try.prog 8 = some true := by kernel_rfl
theorem Try.tbytes8 : tbytes Try.prog 8 = some 24 := by kernel_rfl
theorem Try.tzero8 : tzero Try.prog 8 = some (.agg [.int .i64 (0), .int .i64 (0), .bool false, .int .u8 (0)]) := by kernel_rfl
theorem Try.fok8 : fieldsOK Try.prog 8 = true := by kernel_rfl
theorem Try.tsize9 : tsize Try.prog 9 = some 1 := by kernel_rfl
theorem Try.tagg9 : tagg Try.prog 9 = some false := by kernel_rfl
theorem Try.tbytes9 : tbytes Try.prog 9 = some 16 := by kernel_rfl
theorem Try.tzero9 : tzero Try.prog 9 = some (.str ByteArray.empty) := by kernel_rfl
theorem Try.tsize10 : tsize Try.prog 10 = some 1 := by kernel_rfl
theorem Try.tagg10 : tagg Try.prog 10 = some false := by kernel_rfl
theorem Try.tbytes10 : tbytes Try.prog 10 = some 16 := by kernel_rfl
theorem Try.tzero10 : tzero Try.prog 10 = some (.str ByteArray.empty) := by kernel_rfl
theorem Try.tsize11 : tsize Try.prog 11 = some 1 := by kernel_rfl
theorem Try.tagg11 : tagg Try.prog 11 = some false := by kernel_rfl
theorem Try.tbytes11 : tbytes Try.prog 11 = some 16 := by kernel_rfl
theorem Try.tzero11 : tzero Try.prog 11 = some (.str ByteArray.empty) := by kernel_rfl
theorem Try.tsize12 : tsize Try.prog 12 = some 1 := by kernel_rfl
theorem Try.tagg12 : tagg Try.prog 12 = some false := by kernel_rfl
theorem Try.tbytes12 : tbytes Try.prog 12 = some 8 := by kernel_rfl
theorem Try.tzero12 : tzero Try.prog 12 = some (.int .u64 (0)) := by kernel_rfl
theorem Try.tsize13 : tsize Try.prog 13 = some 2 := by kernel_rfl
theorem Try.tagg13 : tagg Try.prog 13 = some true := by kernel_rfl
theorem Try.tbytes13 : tbytes Try.prog 13 = some 24 := by kernel_rfl
theorem Try.tzero13 : tzero Try.prog 13 = some (.agg [.str ByteArray.empty, .int .u64 (0)]) := by kernel_rfl
theorem Try.fok13 : fieldsOK Try.prog 13 = true := by kernel_rfl
theorem Try.tsize14 : tsize Try.prog 14 = some 2 := by kernel_rfl
theorem Try.tagg14 : tagg Try.prog 14 = some true := by kernel_rfl
theorem Try.tbytes14 : tbytes Try.prog 14 = some 24 := by kernel_rfl
theorem Try.tzero14 : tzero Try.prog 14 = some (.agg [.str ByteArray.empty, .int .u64 (0)]) := by kernel_rfl
theorem Try.fok14 : fieldsOK Try.prog 14 = true := by kernel_rfl
theorem Try.tsize15 : tsize Try.prog 15 = some 1 := by kernel_rfl
theorem Try.tagg15 : tagg Try.prog 15 = some false := by kernel_rfl
theorem Try.tbytes15 : tbytes Try.prog 15 = some 8 := by kernel_rfl
theorem Try.tzero15 : tzero Try.prog 15 = some (.nilP) := by kernel_rfl
theorem Try.tsize16 : tsize Try.prog 16 = some 1 := by kernel_rfl
theorem Try.tagg16 : tagg Try.prog 16 = some false := by kernel_rfl
theorem Try.tbytes16 : tbytes Try.prog 16 = some 8 := by kernel_rfl
theorem Try.tzero16 : tzero Try.prog 16 = some (.nilP) := by kernel_rfl
theorem Try.tsize17 : tsize Try.prog 17 = some 1 := by kernel_rfl
theorem Try.tagg17 : tagg Try.prog 17 = some false := by kernel_rfl
theorem Try.tbytes17 : tbytes Try.prog 17 = some 8 := by kernel_rfl
theorem Try.tzero17 : tzero Try.prog 17 = some (.nilP) := by kernel_rfl
theorem Try.tsize18 : tsize Try.prog 18 = some 1 := by kernel_rfl
theorem Try.tagg18 : tagg Try.prog 18 = some true := by kernel_rfl
theorem Try.tbytes18 : tbytes Try.prog 18 = some 8 := by kernel_rfl
theorem Try.tzero18 : tzero Try.prog 18 = some (.agg [.nilP]) := by kernel_rfl
theorem Try.fok18 : fieldsOK Try.prog 18 = true := by kernel_rfl
theorem Try.tsize19 : tsize Try.prog 19 = some 1 := by kernel_rfl
theorem Try.tagg19 : tagg Try.prog 19 = some true := by kernel_rfl
theorem Try.tbytes19 : tbytes Try.prog 19 = some 8 := by kernel_rfl
theorem Try.tzero19 : tzero Try.prog 19 = some (.agg [.nilP]) := by kernel_rfl
theorem Try.fok19 : fieldsOK Try.prog 19 = true := by kernel_rfl
theorem Try.tsize21 : tsize Try.prog 21 = some 1 := by kernel_rfl
theorem Try.tagg21 : tagg Try.prog 21 = some false := by kernel_rfl
theorem Try.tbytes21 : tbytes Try.prog 21 = some 4 := by kernel_rfl
theorem Try.tzero21 : tzero Try.prog 21 = some (.int .i32 (0)) := by kernel_rfl
theorem Try.tsize22 : tsize Try.prog 22 = some 1 := by kernel_rfl
theorem Try.tagg22 : tagg Try.prog 22 = some false := by kernel_rfl
theorem Try.tbytes22 : tbytes Try.prog 22 = some 24 := by kernel_rfl
theorem Try.tzero22 : tzero Try.prog 22 = some (.nilS) := by kernel_rfl
theorem Try.tsize23 : tsize Try.prog 23 = some 1 := by kernel_rfl
theorem Try.tagg23 : tagg Try.prog 23 = some false := by kernel_rfl
theorem Try.tbytes23 : tbytes Try.prog 23 = some 24 := by kernel_rfl
theorem Try.tzero23 : tzero Try.prog 23 = some (.nilS) := by kernel_rfl
theorem Try.tsize24 : tsize Try.prog 24 = some 1 := by kernel_rfl
theorem Try.tagg24 : tagg Try.prog 24 = some false := by kernel_rfl
theorem Try.tbytes24 : tbytes Try.prog 24 = some 24 := by kernel_rfl
theorem Try.tzero24 : tzero Try.prog 24 = some (.nilS) := by kernel_rfl
theorem Try.tsize28 : tsize Try.prog 28 = some 1 := by kernel_rfl
theorem Try.tagg28 : tagg Try.prog 28 = some false := by kernel_rfl
theorem Try.tbytes28 : tbytes Try.prog 28 = some 24 := by kernel_rfl
theorem Try.tzero28 : tzero Try.prog 28 = some (.nilS) := by kernel_rfl
theorem Try.tsize36 : tsize Try.prog 36 = some 2 := by kernel_rfl
theorem Try.tagg36 : tagg Try.prog 36 = some true := by kernel_rfl
theorem Try.tbytes36 : tbytes Try.prog 36 = some 48 := by kernel_rfl
theorem Try.tzero36 : tzero Try.prog 36 = some (.agg [.nilS, .nilS]) := by kernel_rfl
theorem Try.fok36 : fieldsOK Try.prog 36 = true := by kernel_rfl
theorem Try.tsize37 : tsize Try.prog 37 = some 2 := by kernel_rfl
theorem Try.tagg37 : tagg Try.prog 37 = some true := by kernel_rfl
theorem Try.tbytes37 : tbytes Try.prog 37 = some 48 := by kernel_rfl
theorem Try.tzero37 : tzero Try.prog 37 = some (.agg [.nilS, .nilS]) := by kernel_rfl
theorem Try.fok37 : fieldsOK Try.prog 37 = true := by kernel_rfl
theorem Try.tsize41 : tsize Try.prog 41 = some 2 := by kernel_rfl
theorem Try.tagg41 : tagg Try.prog 41 = some true := by kernel_rfl
theorem Try.tbytes41 : tbytes Try.prog 41 = some 48 := by kernel_rfl
theorem Try.tzero41 : tzero Try.prog 41 = some (.agg [.nilS, .nilS]) := by kernel_rfl
theorem Try.fok41 : fieldsOK Try.prog 41 = true := by kernel_rfl
theorem Try.tsize52 : tsize Try.prog 52 = some 1 := by kernel_rfl
theorem Try.tagg52 : tagg Try.prog 52 = some false := by kernel_rfl
theorem Try.tbytes52 : tbytes Try.prog 52 = some 24 := by kernel_rfl
theorem Try.tzero52 : tzero Try.prog 52 = some (.nilS) := by kernel_rfl
theorem Try.tsize72 : tsize Try.prog 72 = some 1 := by kernel_rfl
theorem Try.tagg72 : tagg Try.prog 72 = some false := by kernel_rfl
theorem Try.tbytes72 : tbytes Try.prog 72 = some 8 := by kernel_rfl
theorem Try.tzero72 : tzero Try.prog 72 = some (.nilP) := by kernel_rfl
theorem Try.tsize93 : tsize Try.prog 93 = some 2 := by kernel_rfl
theorem Try.tagg93 : tagg Try.prog 93 = some true := by kernel_rfl
theorem Try.tbytes93 : tbytes Try.prog 93 = some 32 := by kernel_rfl
theorem Try.tzero93 : tzero Try.prog 93 = some (.agg [.nilS, .int .i64 (0)]) := by kernel_rfl
theorem Try.fok93 : fieldsOK Try.prog 93 = true := by kernel_rfl
theorem Try.tsize94 : tsize Try.prog 94 = some 2 := by kernel_rfl
theorem Try.tagg94 : tagg Try.prog 94 = some true := by kernel_rfl
theorem Try.tbytes94 : tbytes Try.prog 94 = some 32 := by kernel_rfl
theorem Try.tzero94 : tzero Try.prog 94 = some (.agg [.nilS, .int .i64 (0)]) := by kernel_rfl
theorem Try.fok94 : fieldsOK Try.prog 94 = true := by kernel_rfl
theorem Try.tsize101 : tsize Try.prog 101 = some 1 := by kernel_rfl
theorem Try.tagg101 : tagg Try.prog 101 = some false := by kernel_rfl
theorem Try.tbytes101 : tbytes Try.prog 101 = some 8 := by kernel_rfl
theorem Try.tzero101 : tzero Try.prog 101 = some (.int .u64 (0)) := by kernel_rfl
theorem Try.tsize103 : tsize Try.prog 103 = some 1 := by kernel_rfl
theorem Try.tagg103 : tagg Try.prog 103 = some false := by kernel_rfl
theorem Try.tbytes103 : tbytes Try.prog 103 = some 8 := by kernel_rfl
theorem Try.tzero103 : tzero Try.prog 103 = some (.int .i64 (0)) := by kernel_rfl
theorem Try.tsize110 : tsize Try.prog 110 = some 1 := by kernel_rfl
theorem Try.tagg110 : tagg Try.prog 110 = some false := by kernel_rfl
theorem Try.tbytes110 : tbytes Try.prog 110 = some 4 := by kernel_rfl
theorem Try.tzero110 : tzero Try.prog 110 = some (.int .u32 (0)) := by kernel_rfl
theorem Try.tsize112 : tsize Try.prog 112 = some 1 := by kernel_rfl
theorem Try.tagg112 : tagg Try.prog 112 = some false := by kernel_rfl
theorem Try.tbytes112 : tbytes Try.prog 112 = some 8 := by kernel_rfl
theorem Try.tzero112 : tzero Try.prog 112 = some (.int .u64 (0)) := by kernel_rfl
theorem Try.tsize113 : tsize Try.prog 113 = some 1 := by kernel_rfl
theorem Try.tagg113 : tagg Try.prog 113 = some false := by kernel_rfl
theorem Try.tbytes113 : tbytes Try.prog 113 = some 8 := by kernel_rfl
theorem Try.tzero113 : tzero Try.prog 113 = some (.int .u64 (0)) := by kernel_rfl
theorem Try.tsize117 : tsize Try.prog 117 = some 1 := by kernel_rfl
theorem Try.tagg117 : tagg Try.prog 117 = some false := by kernel_rfl
theorem Try.tbytes117 : tbytes Try.prog 117 = some 8 := by kernel_rfl
theorem Try.tzero117 : tzero Try.prog 117 = some (.nilP) := by kernel_rfl
theorem Try.tsize119 : tsize Try.prog 119 = some 1 := by kernel_rfl
theorem Try.tagg119 : tagg Try.prog 119 = some false := by kernel_rfl
theorem Try.tbytes119 : tbytes Try.prog 119 = some 8 := by kernel_rfl
theorem Try.tzero119 : tzero Try.prog 119 = some (.nilP) := by kernel_rfl
theorem Try.tsize122 : tsize Try.prog 122 = some 4 := by kernel_rfl
theorem Try.tagg122 : tagg Try.prog 122 = some true := by kernel_rfl
theorem Try.tbytes122 : tbytes Try.prog 122 = some 40 := by kernel_rfl
theorem Try.tzero122 : tzero Try.prog 122 = some (.agg [.nilP, .nilP, .nilP, .str ByteArray.empty]) := by kernel_rfl
theorem Try.fok122 : fieldsOK Try.prog 122 = true := by kernel_rfl
theorem Try.tsize123 : tsize Try.prog 123 = some 4 := by kernel_rfl
theorem Try.tagg123 : tagg Try.prog 123 = some true := by kernel_rfl
theorem Try.tbytes123 : tbytes Try.prog 123 = some 40 := by kernel_rfl
theorem Try.tzero123 : tzero Try.prog 123 = some (.agg [.nilP, .nilP, .nilP, .str ByteArray.empty]) := by kernel_rfl
theorem Try.fok123 : fieldsOK Try.prog 123 = true := by kernel_rfl
theorem Try.tsize124 : tsize Try.prog 124 = some 0 := by kernel_rfl
theorem Try.tagg124 : tagg Try.prog 124 = some true := by kernel_rfl
theorem Try.tbytes124 : tbytes Try.prog 124 = some 0 := by kernel_rfl
theorem Try.tzero124 : tzero Try.prog 124 = some (.agg []) := by kernel_rfl
theorem Try.tsize125 : tsize Try.prog 125 = some 0 := by kernel_rfl
theorem Try.tagg125 : tagg Try.prog 125 = some true := by kernel_rfl
theorem Try.tbytes125 : tbytes Try.prog 125 = some 0 := by kernel_rfl
theorem Try.tzero125 : tzero Try.prog 125 = some (.agg []) := by kernel_rfl
theorem Try.fok125 : fieldsOK Try.prog 125 = true := by kernel_rfl
theorem Try.tsize126 : tsize Try.prog 126 = some 0 := by kernel_rfl
theorem Try.tagg126 : tagg Try.prog 126 = some true := by kernel_rfl
theorem Try.tbytes126 : tbytes Try.prog 126 = some 0 := by kernel_rfl
theorem Try.tzero126 : tzero Try.prog 126 = some (.agg []) := by kernel_rfl
theorem Try.fok126 : fieldsOK Try.prog 126 = true := by kernel_rfl
theorem Try.tsize128 : tsize Try.prog 128 = some 1 := by kernel_rfl
theorem Try.tagg128 : tagg Try.prog 128 = some false := by kernel_rfl
theorem Try.tbytes128 : tbytes Try.prog 128 = some 1 := by kernel_rfl
theorem Try.tzero128 : tzero Try.prog 128 = some (.int .u8 (0)) := by kernel_rfl
theorem Try.tsize129 : tsize Try.prog 129 = some 1 := by kernel_rfl
theorem Try.tagg129 : tagg Try.prog 129 = some false := by kernel_rfl
theorem Try.tbytes129 : tbytes Try.prog 129 = some 1 := by kernel_rfl
theorem Try.tzero129 : tzero Try.prog 129 = some (.int .u8 (0)) := by kernel_rfl
theorem Try.tsize131 : tsize Try.prog 131 = some 1 := by kernel_rfl
theorem Try.tagg131 : tagg Try.prog 131 = some false := by kernel_rfl
theorem Try.tbytes131 : tbytes Try.prog 131 = some 8 := by kernel_rfl
theorem Try.tzero131 : tzero Try.prog 131 = some (.nilP) := by kernel_rfl
theorem Try.tsize132 : tsize Try.prog 132 = some 1 := by kernel_rfl
theorem Try.tagg132 : tagg Try.prog 132 = some false := by kernel_rfl
theorem Try.tbytes132 : tbytes Try.prog 132 = some 4 := by kernel_rfl
theorem Try.tzero132 : tzero Try.prog 132 = some (.int .i32 (0)) := by kernel_rfl
theorem Try.tsize133 : tsize Try.prog 133 = some 1 := by kernel_rfl
theorem Try.tagg133 : tagg Try.prog 133 = some false := by kernel_rfl
theorem Try.tbytes133 : tbytes Try.prog 133 = some 4 := by kernel_rfl
theorem Try.tzero133 : tzero Try.prog 133 = some (.int .i32 (0)) := by kernel_rfl
theorem Try.tsize134 : tsize Try.prog 134 = some 11 := by kernel_rfl
theorem Try.tagg134 : tagg Try.prog 134 = some true := by kernel_rfl
theorem Try.tbytes134 : tbytes Try.prog 134 = some 48 := by kernel_rfl
theorem Try.tzero134 : tzero Try.prog 134 = some (.agg [.int .u64 (0), .int .u64 (0), .int .u32 (0), .int .u8 (0), .int .u8 (0), .int .u8 (0), .int .u8 (0), .any, .nilP, .int .i32 (0), .int .i32 (0)]) := by kernel_rfl
theorem Try.fok134 : fieldsOK Try.prog 134 = true := by kernel_rfl
theorem Try.tsize135 : tsize Try.prog 135 = some 11 := by kernel_rfl
theorem Try.tagg135 : tagg Try.prog 135 = some true := by kernel_rfl
theorem Try.tbytes135 : tbytes Try.prog 135 = some 48 := by kernel_rfl
theorem Try.tzero135 : tzero Try.prog 135 = some (.agg [.int .u64 (0), .int .u64 (0), .int .u32 (0), .int .u8 (0), .int .u8 (0), .int .u8 (0), .int .u8 (0), .any, .nilP, .int .i32 (0), .int .i32 (0)]) := by kernel_rfl
theorem Try.fok135 : fieldsOK Try.prog 135 = true := by kernel_rfl
attribute [go_sem] Try.tsize2 Try.tagg2 Try.tbytes2 Try.tzero2 Try.underlying2 Try.tsize3 Try.tagg3 Try.tbytes3 Try.tzero3 Try.underlying3 Try.tsize4 Try.tagg4 Try.tbytes4 Try.tzero4 Try.underlying4 Try.tsize5 Try.tagg5 Try.tbytes5 Try.tzero5 Try.underlying5 Try.tsize9 Try.tagg9 Try.tbytes9 Try.tzero9 Try.underlying9 Try.tsize21 Try.tagg21 Try.tbytes21 Try.tzero21 Try.underlying21 Try.tsize22 Try.tagg22 Try.tbytes22 Try.tzero22 Try.underlying22 Try.tsize23 Try.tagg23 Try.tbytes23 Try.tzero23 Try.underlying23 Try.tsize24 Try.tagg24 Try.tbytes24 Try.tzero24 Try.underlying24 Try.tsize28 Try.tagg28 Try.tbytes28 Try.tzero28 Try.underlying28 Try.tsize36 Try.tagg36 Try.tbytes36 Try.tzero36 Try.fok36 Try.underlying36 Try.tsize37 Try.tagg37 Try.tbytes37 Try.tzero37 Try.fok37 Try.underlying37 Try.tsize41 Try.tagg41 Try.tbytes41 Try.tzero41 Try.fok41 Try.underlying41 Try.tsize52 Try.tagg52 Try.tbytes52 Try.tzero52 Try.underlying52 Try.tsize72 Try.tagg72 Try.tbytes72 Try.tzero72 Try.underlying72 Try.tsize93 Try.tagg93 Try.tbytes93 Try.tzero93 Try.fok93 Try.underlying93 Try.tsize94 Try.tagg94 Try.tbytes94 Try.tzero94 Try.fok94 Try.underlying94 Try.tsize101 Try.tagg101 Try.tbytes101 Try.tzero101 Try.underlying101 Try.tsize110 Try.tagg110 Try.tbytes110 Try.tzero110 Try.underlying110 Try.tsize112 Try.tagg112 Try.tbytes112 Try.tzero112 Try.underlying112 Try.tsize117 Try.tagg117 Try.tbytes117 Try.tzero117 Try.underlying117 Try.tsize131 Try.tagg131 Try.tbytes131 Try.tzero131 Try.underlying131
theorem Try.pf : PF Try.prog := ⟨by kernel_rfl⟩
end Go.Proofs.Ytbibnkgcegbmiaa
