/- Contracts of functions that the laws of this seat call. -/
import Derived.Test.YtgpflkmelindfaaVk
import Derived.Test.YtgpflkmelindfaaVl
set_option linter.all false
namespace Go.Proofs.Ytgpflkmelindfaa
open Go Go.Ev Go.RowKit Go.Ev.Enc Go.Pl

theorem can_someView : CanCall Try.prog 82 := ⟨_, Try.func82, rfl, rfl⟩
theorem can_newRd : CanCall Try.prog 48 := ⟨_, Try.func48, rfl, rfl⟩
def SomeV : Prop := ∀ {bs : List UInt8} {b n : Nat} {rL : Int → List Blk} (hC : RC bs b n rL) (hb : bs.length ≤ 2000) (p : Int) (hp : 0 ≤ p ∧ p ≤ 800000000), ISpec Try.prog 82 [.ptr b 1 0 0] (rL p) fun r L' => ∃ (v : Vi) (p' : Int), v.sh.length ≤ 4 ∧ v.st.length ≤ 5 ∧ r = viD v ∧ p ≤ p' ∧ p' ≤ p + 210 ∧ L' = rL p'
def DrOne (f : FuncId) : Prop := ∀ (bs : List UInt8), bs.length ≤ 1048576 → ∀ L : List Blk, ISpec Try.prog f [bytesA 0 bs] L fun r L' => ∃ v : Vi, v.sh.length ≤ 4 ∧ v.st.length ≤ 5 ∧ r = viD v ∧ L' = L
def gTrueW (bs : List UInt8) : Option Bool := gd (bs.length < 9223372036854775808) true
theorem selV_viD {g : Nat → Option Nat} {L : List Blk} {v : Vi} : selV g L (viD v) = viD v := by
  rw [selV_agg]
  simp only [List.map_cons, List.map_nil, selC_d, selC_int]
theorem dec_i0 : (dec (AV.ds 0 []) : Option (List Int)) = some [] := (ok _ _).2 rfl
theorem within_mem {a b : List Int} (h : ∀ x ∈ a, x ∈ b) : (a.all fun x => b.contains x) = true := by
  rw [List.all_eq_true]
  exact fun x hx => List.contains_iff_mem.2 (h x hx)
end Go.Proofs.Ytgpflkmelindfaa
