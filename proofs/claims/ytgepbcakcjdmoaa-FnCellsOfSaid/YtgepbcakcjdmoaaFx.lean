/- Contracts of functions that the laws of this seat call. -/
import Derived.Test.YtgepbcakcjdmoaaFw
set_option linter.all false
namespace Go.Proofs.Ytgepbcakcjdmoaa
open Go Go.Ev Go.RowKit Go.Ev.Enc Go.Pl

def oR (r : Tsr × Bool) (n : Nat) : AV := match r.2, r.1.sh with
  | false, _ => .tup [.agg [.nilS, .nilS], .bool false]
  | true, [] => .tup [.agg [.nilS, .sl n r.1.vl.length 0 r.1.vl.length r.1.vl.length], .bool true]
  | true, _ :: _ => .tup [tsrA n (n + 1) r.1, .bool true]
def oN (r : Tsr × Bool) (_ : Nat) : List Blk := match r.2, r.1.sh with
  | false, _ => []
  | true, [] => [⟨1, r.1.vl.map fun n => .int .i64 n⟩]
  | true, _ :: _ => [⟨1, r.1.sh.map fun n => .int .i64 n⟩, ⟨1, r.1.vl.map fun n => .int .i64 n⟩]
theorem own_bad {x : Tsr} {L : List Blk} : OwnQ (oR (x, false)) (oN (x, false)) (.tup [.agg [.nilS, .nilS], .bool false]) L :=
  ⟨[], by simp, by simp, fun _ => rfl, fun _ => rfl⟩
theorem own_nil {V : List Int} {b : Nat} {L : List Blk} (h : L[b]? = some ⟨1, V.map fun n => .int .i64 n⟩) :
    OwnQ (oR (⟨[], V⟩, true)) (oN (⟨[], V⟩, true)) (.tup [.agg [.nilS, .sl b V.length 0 V.length V.length], .bool true]) L := by
  obtain ⟨hb, hb2⟩ := List.getElem?_eq_some_iff.1 h
  refine ⟨[b], by simp, by simpa using hb, fun n => ?_, fun n => ?_⟩
  · simp [oR, renV, expE, renC, gOf, List.idxOf?_cons]
  · simp [oN, renB, expE, renC, h, Function.comp_def]
theorem own_two {x : Tsr} {b c : Nat} {L : List Blk} (hb : L[b]? = some ⟨1, x.sh.map fun n => .int .i64 n⟩) (hc : L[c]? = some ⟨1, x.vl.map fun n => .int .i64 n⟩) (hbc : b ≠ c) (hx : x.sh ≠ []) :
    OwnQ (oR (x, true)) (oN (x, true)) (.tup [tsrA b c x, .bool true]) L := by
  obtain ⟨hb1, hb2⟩ := List.getElem?_eq_some_iff.1 hb
  obtain ⟨hc1, hc2⟩ := List.getElem?_eq_some_iff.1 hc
  obtain ⟨sh, vl⟩ := x
  cases sh with
  | nil => exact absurd rfl hx
  | cons a s =>
    refine ⟨[b, c], by simpa using hbc, by simp [hb1, hc1], fun n => ?_, fun n => ?_⟩
    · have : (b == c) = false := by simpa using hbc
      simp [oR, renV, expE, renC, gOf, List.idxOf?_cons, this, tsrA]
    · simp [oN, renB, expE, renC, hb, hc, Function.comp_def]
end Go.Proofs.Ytgepbcakcjdmoaa
