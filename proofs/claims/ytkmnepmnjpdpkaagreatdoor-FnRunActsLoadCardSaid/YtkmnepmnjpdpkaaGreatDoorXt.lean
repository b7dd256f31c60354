/- Contracts of functions that the laws of this seat call. -/
import Derived.Test.YtkmnepmnjpdpkaaGreatDoorXs
set_option linter.all false
namespace Go.Proofs.YtkmnepmnjpdpkaaGreatDoor
open Go Go.Ev Go.RowKit Go.Ev.Enc Go.Pl

theorem fmt_size (a : Ac) : (fmtB a).size ≤ 92 := by
  unfold fmtB
  by_cases e : actB a = true
  · rw [if_pos e, fmt_s, ByteArray.size_append, bs_size]
    obtain ⟨⟨hk, hl⟩, hx⟩ := actB_iff.1 e
    have h4 := ned_4 a.k
    have := nm_len (k := a.k.toNat) (by omega)
    have := numsB_len a.n fun x h => by have := hx x h; unfold i64R; omega
    omega
  · rw [if_neg e]; exact Nat.zero_le _
def MutP : Prop := ∀ {bs : List UInt8} {b n : Nat} {rL : Int → List Blk} (hC : RC bs b n rL) (hb : bs.length ≤ 2000) (p : Int) (hp : 0 ≤ p ∧ p ≤ 800000000) (s : ByteArray) (hs : s.size ≤ 100000), ISpec Tryz.prog 77 [.ptr b 1 0 0, .str s] (rL p) fun r L' => ∃ (v : ByteArray) (p' : Int), r = .str v ∧ v.size ≤ s.size + 1 ∧ p ≤ p' ∧ p' ≤ p + 3 ∧ L' = rL p'
end Go.Proofs.YtkmnepmnjpdpkaaGreatDoor
