/- Contracts of functions that the laws of this seat call. -/
import Derived.Test.YtjmkdnnfhphckaaEvB
import Derived.Test.YtjmkdnnfhphckaaProg
import Derived.KernelRfl
set_option linter.all false
namespace Go.Proofs.Ytjmkdnnfhphckaa
open Go Go.Ev Go.RowKit
theorem Try.tsize2 : tsize Try.prog 2 = some 1 := by kernel_rfl
theorem Try.tagg2 : tagg Try.prog 2 = some false := by kernel_rfl
theorem Try.tbytes2 : tbytes Try.prog 2 = some 8 := by kernel_rfl
theorem Try.tzero2 : tzero Try.prog 2 = some (.int .i64 (0)) := by kernel_rfl
theorem Try.tsize3 : tsize Try.prog 3 = some 1 := by kernel_rfl
theorem Try.tagg3 : tagg Try.prog 3 = some false := by kernel_rfl
theorem Try.tbytes3 : tbytes Try.prog 3 = some 8 := by kernel_rfl
theorem Try.tzero3 : tzero Try.prog 3 = some (.int .i64 (0)) := by kernel_rfl
theorem Try.tsize4 : tsize Try.prog 4 = some 1 := by kernel_rfl
theorem Try.tagg4 : tagg Try.prog 4 = some false := by kernel_rfl
theorem Try.tbytes4 : tbytes Try.prog 4 = some 1 := by kernel_rfl
theorem Try.tzero4 : tzero Try.prog 4 = some (.bool false) := by kernel_rfl
theorem Try.tsize5 : tsize Try.prog 5 = some 1 := by kernel_rfl
theorem Try.tagg5 : tagg Try.prog 5 = some false := by kernel_rfl
theorem Try.tbytes5 : tbytes Try.prog 5 = some 1 := by kernel_rfl
theorem Try.tzero5 : tzero Try.prog 5 = some (.int .u8 (0)) := by kernel_rfl
theorem Try.tsize6 : tsize Try.prog 6 = some 1 := by kernel_rfl
theorem Try.tagg6 : tagg Try.prog 6 = some false := by kernel_rfl
theorem Try.tbytes6 : tbytes Try.prog 6 = some 1 := by kernel_rfl
theorem Try.tzero6 : tzero Try.prog 6 = some (.int .u8 (0)) := by kernel_rfl
theorem Try.tsize7 : tsize Try.prog 7 = some 4 := by kernel_rfl
theorem Try.tagg7 : tagg Try.prog 7 = some true := by kernel_rfl
theorem Try.tbytes7 : tbytes Try.prog 7 = some 24 := by kernel_rfl
theorem Try.tzero7 : tzero Try.prog 7 = some (.agg [.int .i64 (0), .int .i64 (0), .bool false, .int .u8 (0)]) := by kernel_rfl
theorem Try.fok7 : fieldsOK Try.prog 7 = true := by kernel_rfl
theorem Try.tsize8 : tsize Try.prog 8 = some 4 := by kernel_rfl
theorem Try.tagg8 : tagg Try.prog 8 = some true := by kernel_rfl
theorem Try.tbytes8 : tbytes Try.prog 8 = some 24 := by kernel_rfl
theorem Try.tzero8 : tzero Try.prog 8 = some (.agg [.int .i64 (0), .int .i64 (0), .bool false, .int .u8 (0)]) := by kernel_rfl
theorem Try.fok8 : fieldsOK Try.prog 8 = true := by kernel_rfl
theorem Try.tsize9 : tsize Try.prog 9 = some 1 := by kernel_rfl
theorem Try.tagg9 : tagg Try.prog 9 = some false := by kernel_rfl
theorem Try.tbytes9 : tbytes Try.prog 9 = some 16 := by kernel_rfl
theorem Try.tzero9 : tzero Try.prog 9 = some (.str ByteArray.empty) := by kernel_rfl
theorem Try.tsize10 : tsize Try.prog 10 = some 1 := by kernel_rfl
theorem Try.tagg10 : tagg Try.prog 10 = some false := by kernel_rfl
theorem Try.tbytes10 : tbytes Try.prog 10 = some 16 := by kernel_rfl
theorem Try.tzero10 : tzero Try.prog 10 = some (.str ByteArray.empty) := by kernel_rfl
theorem Try.tsize11 : tsize Try.prog 11 = some 1 := by kernel_rfl
theorem Try.tagg11 : tagg Try.prog 11 = some false := by kernel_rfl
theorem Try.tbytes11 : tbytes Try.prog 11 = some 16 := by kernel_rfl
theorem Try.tzero11 : tzero Try.prog 11 = some (.str ByteArray.empty) := by kernel_rfl
theorem Try.tsize12 : tsize Try.prog 12 = some 1 := by kernel_rfl
theorem Try.tagg12 : tagg Try.prog 12 = some false := by kernel_rfl
theorem Try.tbytes12 : tbytes Try.prog 12 = some 8 := by kernel_rfl
theorem Try.tzero12 : tzero Try.prog 12 = some (.int .u64 (0)) := by kernel_rfl
theorem Try.tsize13 : tsize Try.prog 13 = some 2 := by kernel_rfl
theorem Try.tagg13 : tagg Try.prog 13 = some true := by kernel_rfl
theorem Try.tbytes13 : tbytes Try.prog 13 = some 24 := by kernel_rfl
theorem Try.tzero13 : tzero Try.prog 13 = some (.agg [.str ByteArray.empty, .int .u64 (0)]) := by kernel_rfl
theorem Try.fok13 : fieldsOK Try.prog 13 = true := by kernel_rfl
theorem Try.tsize14 : tsize Try.prog 14 = some 2 := by kernel_rfl
theorem Try.tagg14 : tagg Try.prog 14 = some true := by kernel_rfl
theorem Try.tbytes14 : tbytes Try.prog 14 = some 24 := by kernel_rfl
theorem Try.tzero14 : tzero Try.prog 14 = some (.agg [.str ByteArray.empty, .int .u64 (0)]) := by kernel_rfl
theorem Try.fok14 : fieldsOK Try.prog 14 = true := by kernel_rfl
theorem Try.tsize15 : tsize Try.prog 15 = some 1 := by kernel_rfl
theorem Try.tagg15 : tagg Try.prog 15 = some false := by kernel_rfl
theorem Try.tbytes15 : tbytes Try.prog 15 = some 8 := by kernel_rfl
theorem Try.tzero15 : tzero Try.prog 15 = some (.nilP) := by kernel_rfl
theorem Try.tsize16 : tsize Try.prog 16 = some 1 := by kernel_rfl
theorem Try.tagg16 : tagg Try.prog 16 = some false := by kernel_rfl
theorem Try.tbytes16 : tbytes Try.prog 16 = some 8 := by kernel_rfl
theorem Try.tzero16 : tzero Try.prog 16 = some (.nilP) := by kernel_rfl
theorem Try.tsize17 : tsize Try.prog 17 = some 1 := by kernel_rfl
theorem Try.tagg17 : tagg Try.prog 17 = some false := by kernel_rfl
theorem Try.tbytes17 : tbytes Try.prog 17 = some 8 := by kernel_rfl
theorem Try.tzero17 : tzero Try.prog 17 = some (.nilP) := by kernel_rfl
theorem Try.tsize18 : tsize Try.prog 18 = some 1 := by kernel_rfl
theorem Try.tagg18 : tagg Try.prog 18 = some true := by kernel_rfl
theorem Try.tbytes18 : tbytes Try.prog 18 = some 8 := by kernel_rfl
theorem Try.tzero18 : tzero Try.prog 18 = some (.agg [.nilP]) := by kernel_rfl
theorem Try.fok18 : fieldsOK Try.prog 18 = true := by kernel_rfl
theorem Try.tsize19 : tsize Try.prog 19 = some 1 := by kernel_rfl
theorem Try.tagg19 : tagg Try.prog 19 = some true := by kernel_rfl
theorem Try.tbytes19 : tbytes Try.prog 19 = some 8 := by kernel_rfl
theorem Try.tzero19 : tzero Try.prog 19 = some (.agg [.nilP]) := by kernel_rfl
theorem Try.fok19 : fieldsOK Try.prog 19 = true := by kernel_rfl
theorem Try.tsize21 : tsize Try.prog 21 = some 1 := by kernel_rfl
theorem Try.tagg21 : tagg Try.prog 21 = some false := by kernel_rfl
theorem Try.tbytes21 : tbytes Try.prog 21 = some 4 := by kernel_rfl
theorem Try.tzero21 : tzero Try.prog 21 = some (.int .i32 (0)) := by kernel_rfl
theorem Try.tsize22 : tsize Try.prog 22 = some 1 := by kernel_rfl
theorem Try.tagg22 : tagg Try.prog 22 = some false := by kernel_rfl
theorem Try.tbytes22 : tbytes Try.prog 22 = some 24 := by kernel_rfl
theorem Try.tzero22 : tzero Try.prog 22 = some (.nilS) := by kernel_rfl
theorem Try.tsize23 : tsize Try.prog 23 = some 1 := by kernel_rfl
theorem Try.tagg23 : tagg Try.prog 23 = some false := by kernel_rfl
theorem Try.tbytes23 : tbytes Try.prog 23 = some 24 := by kernel_rfl
theorem Try.tzero23 : tzero Try.prog 23 = some (.nilS) := by kernel_rfl
theorem Try.tsize24 : tsize Try.prog 24 = some 3 := by kernel_rfl
theorem Try.tagg24 : tagg Try.prog 24 = some true := by kernel_rfl
theorem Try.tbytes24 : tbytes Try.prog 24 = some 56 := by kernel_rfl
theorem Try.tzero24 : tzero Try.prog 24 = some (.agg [.int .i64 (0), .nilS, .nilS]) := by kernel_rfl
theorem Try.fok24 : fieldsOK Try.prog 24 = true := by kernel_rfl
theorem Try.tsize25 : tsize Try.prog 25 = some 3 := by kernel_rfl
theorem Try.tagg25 : tagg Try.prog 25 = some true := by kernel_rfl
theorem Try.tbytes25 : tbytes Try.prog 25 = some 56 := by kernel_rfl
theorem Try.tzero25 : tzero Try.prog 25 = some (.agg [.int .i64 (0), .nilS, .nilS]) := by kernel_rfl
theorem Try.fok25 : fieldsOK Try.prog 25 = true := by kernel_rfl
theorem Try.tsize37 : tsize Try.prog 37 = some 1 := by kernel_rfl
theorem Try.tagg37 : tagg Try.prog 37 = some false := by kernel_rfl
theorem Try.tbytes37 : tbytes Try.prog 37 = some 8 := by kernel_rfl
theorem Try.tzero37 : tzero Try.prog 37 = some (.nilP) := by kernel_rfl
theorem Try.tsize51 : tsize Try.prog 51 = some 2 := by kernel_rfl
theorem Try.tagg51 : tagg Try.prog 51 = some true := by kernel_rfl
theorem Try.tbytes51 : tbytes Try.prog 51 = some 32 := by kernel_rfl
theorem Try.tzero51 : tzero Try.prog 51 = some (.agg [.nilS, .int .i64 (0)]) := by kernel_rfl
theorem Try.fok51 : fieldsOK Try.prog 51 = true := by kernel_rfl
theorem Try.tsize52 : tsize Try.prog 52 = some 2 := by kernel_rfl
theorem Try.tagg52 : tagg Try.prog 52 = some true := by kernel_rfl
theorem Try.tbytes52 : tbytes Try.prog 52 = some 32 := by kernel_rfl
theorem Try.tzero52 : tzero Try.prog 52 = some (.agg [.nilS, .int .i64 (0)]) := by kernel_rfl
theorem Try.fok52 : fieldsOK Try.prog 52 = true := by kernel_rfl
theorem Try.tsize61 : tsize Try.prog 61 = some 5 := by kernel_rfl
theorem Try.tagg61 : tagg Try.prog 61 = some true := by kernel_rfl
theorem Try.tbytes61 : tbytes Try.prog 61 = some 32 := by kernel_rfl
theorem Try.tzero61 : tzero Try.prog 61 = some (.agg [.int .i64 (0), .int .i64 (0), .int .i64 (0), .bool false, .bool false]) := by kernel_rfl
theorem Try.fok61 : fieldsOK Try.prog 61 = true := by kernel_rfl
theorem Try.tsize62 : tsize Try.prog 62 = some 5 := by kernel_rfl
theorem Try.tagg62 : tagg Try.prog 62 = some true := by kernel_rfl
theorem Try.tbytes62 : tbytes Try.prog 62 = some 32 := by kernel_rfl
theorem Try.tzero62 : tzero Try.prog 62 = some (.agg [.int .i64 (0), .int .i64 (0), .int .i64 (0), .bool false, .bool false]) := by kernel_rfl
theorem Try.fok62 : fieldsOK Try.prog 62 = true := by kernel_rfl
theorem Try.tsize71 : tsize Try.prog 71 = some 1 := by kernel_rfl
theorem Try.tagg71 : tagg Try.prog 71 = some false := by kernel_rfl
theorem Try.tbytes71 : tbytes Try.prog 71 = some 8 := by kernel_rfl
theorem Try.tzero71 : tzero Try.prog 71 = some (.int .u64 (0)) := by kernel_rfl
theorem Try.tsize77 : tsize Try.prog 77 = some 1 := by kernel_rfl
theorem Try.tagg77 : tagg Try.prog 77 = some false := by kernel_rfl
theorem Try.tbytes77 : tbytes Try.prog 77 = some 8 := by kernel_rfl
theorem Try.tzero77 : tzero Try.prog 77 = some (.int .i64 (0)) := by kernel_rfl
theorem Try.tsize84 : tsize Try.prog 84 = some 1 := by kernel_rfl
theorem Try.tagg84 : tagg Try.prog 84 = some false := by kernel_rfl
theorem Try.tbytes84 : tbytes Try.prog 84 = some 4 := by kernel_rfl
theorem Try.tzero84 : tzero Try.prog 84 = some (.int .u32 (0)) := by kernel_rfl
theorem Try.tsize86 : tsize Try.prog 86 = some 1 := by kernel_rfl
theorem Try.tagg86 : tagg Try.prog 86 = some false := by kernel_rfl
theorem Try.tbytes86 : tbytes Try.prog 86 = some 8 := by kernel_rfl
theorem Try.tzero86 : tzero Try.prog 86 = some (.int .u64 (0)) := by kernel_rfl
theorem Try.tsize87 : tsize Try.prog 87 = some 3 := by kernel_rfl
theorem Try.tagg87 : tagg Try.prog 87 = some true := by kernel_rfl
theorem Try.tbytes87 : tbytes Try.prog 87 = some 24 := by kernel_rfl
theorem Try.tzero87 : tzero Try.prog 87 = some (.agg [.int .i64 (0), .int .i64 (0), .int .i64 (0)]) := by kernel_rfl
theorem Try.fok87 : fieldsOK Try.prog 87 = true := by kernel_rfl
theorem Try.tsize88 : tsize Try.prog 88 = some 3 := by kernel_rfl
theorem Try.tagg88 : tagg Try.prog 88 = some true := by kernel_rfl
theorem Try.tbytes88 : tbytes Try.prog 88 = some 24 := by kernel_rfl
theorem Try.tzero88 : tzero Try.prog 88 = some (.agg [.int .i64 (0), .int .i64 (0), .int .i64 (0)]) := by kernel_rfl
theorem Try.fok88 : fieldsOK Try.prog 88 = true := by kernel_rfl
theorem Try.tsize92 : tsize Try.prog 92 = some 1 := by kernel_rfl
theorem Try.tagg92 : tagg Try.prog 92 = some false := by kernel_rfl
theorem Try.tbytes92 : tbytes Try.prog 92 = some 8 := by kernel_rfl
theorem Try.tzero92 : tzero Try.prog 92 = some (.int .u64 (0)) := by kernel_rfl
theorem Try.tsize96 : tsize Try.prog 96 = some 1 := by kernel_rfl
theorem Try.tagg96 : tagg Try.prog 96 = some false := by kernel_rfl
theorem Try.tbytes96 : tbytes Try.prog 96 = some 8 := by kernel_rfl
theorem Try.tzero96 : tzero Try.prog 96 = some (.nilP) := by kernel_rfl
theorem Try.tsize99 : tsize Try.prog 99 = some 1 := by kernel_rfl
theorem Try.tagg99 : tagg Try.prog 99 = some false := by kernel_rfl
theorem Try.tbytes99 : tbytes Try.prog 99 = some 8 := by kernel_rfl
theorem Try.tzero99 : tzero Try.prog 99 = some (.nilP) := by kernel_rfl
theorem Try.tsize103 : tsize Try.prog 103 = some 4 := by kernel_rfl
theorem Try.tagg103 : tagg Try.prog 103 = some true := by kernel_rfl
theorem Try.tbytes103 : tbytes Try.prog 103 = some 40 := by kernel_rfl
theorem Try.tzero103 : tzero Try.prog 103 = some (.agg [.nilP, .nilP, .nilP, .str ByteArray.empty]) := by kernel_rfl
theorem Try.fok103 : fieldsOK Try.prog 103 = true := by kernel_rfl
theorem Try.tsize104 : tsize Try.prog 104 = some 4 := by kernel_rfl
theorem Try.tagg104 : tagg Try.prog 104 = some true := by kernel_rfl
theorem Try.tbytes104 : tbytes Try.prog 104 = some 40 := by kernel_rfl
theorem Try.tzero104 : tzero Try.prog 104 = some (.agg [.nilP, .nilP, .nilP, .str ByteArray.empty]) := by kernel_rfl
theorem Try.fok104 : fieldsOK Try.prog 104 = true := by kernel_rfl
theorem Try.tsize105 : tsize Try.prog 105 = some 0 := by kernel_rfl
theorem Try.tagg105 : tagg Try.prog 105 = some true := by kernel_rfl
theorem Try.tbytes105 : tbytes Try.prog 105 = some 0 := by kernel_rfl
theorem Try.tzero105 : tzero Try.prog 105 = some (.agg []) := by kernel_rfl
theorem Try.tsize106 : tsize Try.prog 106 = some 0 := by kernel_rfl
theorem Try.tagg106 : tagg Try.prog 106 = some true := by kernel_rfl
theorem Try.tbytes106 : tbytes Try.prog 106 = some 0 := by kernel_rfl
theorem Try.tzero106 : tzero Try.prog 106 = some (.agg []) := by kernel_rfl
theorem Try.fok106 : fieldsOK Try.prog 106 = true := by kernel_rfl
theorem Try.tsize107 : tsize Try.prog 107 = some 0 := by kernel_rfl
theorem Try.tagg107 : tagg Try.prog 107 = some true := by kernel_rfl
theorem Try.tbytes107 : tbytes Try.prog 107 = some 0 := by kernel_rfl
theorem Try.tzero107 : tzero Try.prog 107 = some (.agg []) := by kernel_rfl
theorem Try.fok107 : fieldsOK Try.prog 107 = true := by kernel_rfl
theorem Try.tsize109 : tsize Try.prog 109 = some 1 := by kernel_rfl
theorem Try.tagg109 : tagg Try.prog 109 = some false := by kernel_rfl
theorem Try.tbytes109 : tbytes Try.prog 109 = some 1 := by kernel_rfl
theorem Try.tzero109 : tzero Try.prog 109 = some (.int .u8 (0)) := by kernel_rfl
theorem Try.tsize110 : tsize Try.prog 110 = some 1 := by kernel_rfl
theorem Try.tagg110 : tagg Try.prog 110 = some false := by kernel_rfl
theorem Try.tbytes110 : tbytes Try.prog 110 = some 1 := by kernel_rfl
theorem Try.tzero110 : tzero Try.prog 110 = some (.int .u8 (0)) := by kernel_rfl
theorem Try.tsize112 : tsize Try.prog 112 = some 1 := by kernel_rfl
theorem Try.tagg112 : tagg Try.prog 112 = some false := by kernel_rfl
theorem Try.tbytes112 : tbytes Try.prog 112 = some 8 := by kernel_rfl
theorem Try.tzero112 : tzero Try.prog 112 = some (.nilP) := by kernel_rfl
theorem Try.tsize113 : tsize Try.prog 113 = some 1 := by kernel_rfl
theorem Try.tagg113 : tagg Try.prog 113 = some false := by kernel_rfl
theorem Try.tbytes113 : tbytes Try.prog 113 = some 4 := by kernel_rfl
theorem Try.tzero113 : tzero Try.prog 113 = some (.int .i32 (0)) := by kernel_rfl
theorem Try.tsize114 : tsize Try.prog 114 = some 1 := by kernel_rfl
theorem Try.tagg114 : tagg Try.prog 114 = some false := by kernel_rfl
theorem Try.tbytes114 : tbytes Try.prog 114 = some 4 := by kernel_rfl
theorem Try.tzero114 : tzero Try.prog 114 = some (.int .i32 (0)) := by kernel_rfl
theorem Try.tsize115 : tsize Try.prog 115 = some 11 := by kernel_rfl
theorem Try.tagg115 : tagg Try.prog 115 = some true := by kernel_rfl
theorem Try.tbytes115 : tbytes Try.prog 115 = some 48 := by kernel_rfl
theorem Try.tzero115 : tzero Try.prog 115 = some (.agg [.int .u64 (0), .int .u64 (0), .int .u32 (0), .int .u8 (0), .int .u8 (0), .int .u8 (0), .int .u8 (0), .any, .nilP, .int .i32 (0), .int .i32 (0)]) := by kernel_rfl
theorem Try.fok115 : fieldsOK Try.prog 115 = true := by kernel_rfl
theorem Try.tsize116 : tsize Try.prog 116 = some 11 := by kernel_rfl
theorem Try.tagg116 : tagg Try.prog 116 = some true := by kernel_rfl
theorem Try.tbytes116 : tbytes Try.prog 116 = some 48 := by kernel_rfl
theorem Try.tzero116 : tzero Try.prog 116 = some (.agg [.int .u64 (0), .int .u64 (0), .int .u32 (0), .int .u8 (0), .int .u8 (0), .int .u8 (0), .int .u8 (0), .any, .nilP, .int .i32 (0), .int .i32 (0)]) := by kernel_rfl
theorem Try.fok116 : fieldsOK Try.prog 116 = true := by kernel_rfl
attribute [go_sem] Try.tsize2 Try.tagg2 Try.tbytes2 Try.tzero2 Try.underlying2 Try.tsize3 Try.tagg3 Try.tbytes3 Try.tzero3 Try.underlying3 Try.tsize4 Try.tagg4 Try.tbytes4 Try.tzero4 Try.underlying4 Try.tsize5 Try.tagg5 Try.tbytes5 Try.tzero5 Try.underlying5 Try.tsize9 Try.tagg9 Try.tbytes9 Try.tzero9 Try.underlying9 Try.tsize21 Try.tagg21 Try.tbytes21 Try.tzero21 Try.underlying21 Try.tsize22 Try.tagg22 Try.tbytes22 Try.tzero22 Try.underlying22 Try.tsize23 Try.tagg23 Try.tbytes23 Try.tzero23 Try.underlying23 Try.tsize24 Try.tagg24 Try.tbytes24 Try.tzero24 Try.fok24 Try.underlying24 Try.tsize25 Try.tagg25 Try.tbytes25 Try.tzero25 Try.fok25 Try.underlying25 Try.tsize37 Try.tagg37 Try.tbytes37 Try.tzero37 Try.underlying37 Try.tsize51 Try.tagg51 Try.tbytes51 Try.tzero51 Try.fok51 Try.underlying51 Try.tsize52 Try.tagg52 Try.tbytes52 Try.tzero52 Try.fok52 Try.underlying52 Try.tsize61 Try.tagg61 Try.tbytes61 Try.tzero61 Try.fok61 Try.underlying61 Try.tsize62 Try.tagg62 Try.tbytes62 Try.tzero62 Try.fok62 Try.underlying62 Try.tsize71 Try.tagg71 Try.tbytes71 Try.tzero71 Try.underlying71 Try.tsize84 Try.tagg84 Try.tbytes84 Try.tzero84 Try.underlying84 Try.tsize86 Try.tagg86 Try.tbytes86 Try.tzero86 Try.underlying86 Try.tsize87 Try.tagg87 Try.tbytes87 Try.tzero87 Try.fok87 Try.underlying87 Try.tsize88 Try.tagg88 Try.tbytes88 Try.tzero88 Try.fok88 Try.underlying88 Try.tsize96 Try.tagg96 Try.tbytes96 Try.tzero96 Try.underlying96 Try.tsize112 Try.tagg112 Try.tbytes112 Try.tzero112 Try.underlying112
theorem Try.pf : PF Try.prog := ⟨by kernel_rfl⟩
end Go.Proofs.Ytjmkdnnfhphckaa
