/- Contracts of functions that the laws of this seat call. -/
import Derived.Test.YtgepbcakcjdmoaaFs
set_option linter.all false
namespace Go.Proofs.Ytgepbcakcjdmoaa
open Go Go.Ev Go.RowKit Go.Ev.Enc Go.Pl

theorem evApp_i6 {B0 B1 B2 B3 B4 B5 : Blk} {L : List Blk} {n by' : Nat} {q : List Int} {x : Int} (hn : q.length = n) (h1 : (n + 1) * by' ≤ 140737488355328) (h2 : n + 1 ≤ 9223372036854775807) :
    evApp (B0 :: B1 :: B2 :: B3 :: B4 :: B5 :: ⟨1, q.map fun n => .int .i64 n⟩ :: L) (.sl 6 n 0 n n) [.int .i64 x] 1 by' = some (.sl 6 (n + 1) 0 (n + 1) (n + 1), B0 :: B1 :: B2 :: B3 :: B4 :: B5 :: ⟨1, (q ++ [x]).map fun n => .int .i64 n⟩ :: L) := evApp_int (L := B0 :: B1 :: B2 :: B3 :: B4 :: B5 :: ⟨1, q.map fun n => .int .i64 n⟩ :: L) (b := 6) rfl hn h1 h2
theorem dec_tsr0 (V : List Int) : (dec (.agg [.ds 0 [], .ds 0 (V.map fun n => .int .i64 n)]) : Option Tsr) = some ⟨[], V⟩ := (ok _ _).2 rfl
/-- blocks while the shape grows -/
def shB (l : List Tsr) (b : List (List Int)) (out e : List Int) : Nat → List Int → List Blk
  | 0, _ => [⟨1, [.ds 0 (l.map fun x => .agg [ints 0 x.sh, ints 0 x.vl])]⟩, ⟨1, [.ds 0 (b.map fun r => .ds 0 (r.map fun n => .int .i64 n))]⟩, ⟨1, [ints 0 out]⟩, ⟨2, [.agg [.nilS, .nilS]]⟩, ⟨1, [ints 1 e]⟩, ⟨2, [.agg [.nilS, .nilS]]⟩]
  | k + 1, q => [⟨1, [.ds 0 (l.map fun x => .agg [ints 0 x.sh, ints 0 x.vl])]⟩, ⟨1, [.ds 0 (b.map fun r => .ds 0 (r.map fun n => .int .i64 n))]⟩, ⟨1, [ints 0 out]⟩, ⟨2, [.agg [.nilS, .nilS]]⟩, ⟨1, [ints 1 e]⟩, ⟨2, [.agg [.sl 6 (k + 1) 0 (k + 1) (k + 1), .nilS]]⟩, ⟨1, q.map fun n => .int .i64 n⟩]
end Go.Proofs.Ytgepbcakcjdmoaa
