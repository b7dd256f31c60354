/- Contracts of functions that the laws of this seat call. -/
import Derived.Test.YtfjhhbpipococaaGd
set_option linter.all false
namespace Go.Proofs.Ytfjhhbpipococaa
open Go Go.Ev Go.RowKit Go.Ev.Enc Go.Pl

theorem can_someTensor : CanCall Try.prog 82 := ⟨_, Try.func82, rfl, rfl⟩
theorem can_newReader : CanCall Try.prog 55 := ⟨_, Try.func55, rfl, rfl⟩
theorem isp_tensorForD {Sg : FuncId → Option (List AV → Option AV)} (hS : Sound Try.prog Sg) (h0 : Sg 77 = none) (h1 : Sg 93 = none) (hc : Sg 78 = some (F1 gCount)) {bs : List UInt8} {b n : Nat} {rL : Int → List Blk} (hC : RC bs b n rL) (hb : bs.length ≤ 2000) (p : Int) (hp : 0 ≤ p ∧ p ≤ 900000000) (tag : Nat) (sh : List Int) (hs : sh.length ≤ 100 ∧ 0 ≤ prodW sh ∧ prodW sh ≤ 1000) (hcp : CopyO) :
    ISpec Try.prog 80 [.ptr b 1 0 0, ints tag sh] (rL p) (fun r L' => ∃ x p', x.sh = sh ∧ x.vl.length = (prodW sh).toNat ∧ p ≤ p' ∧ p' ≤ p + prodW sh ∧ r = tsrD x ∧ L' = rL p') := by
  refine ISpec.nz (ISpec.fin ((isp_tensorFor hS h0 h1 hc hC hb p hp tag sh hs hcp).mono ?_))
  rintro r L1 ⟨x, p', m1, m2, m3, m4, rfl, rfl⟩
  obtain ⟨sh2, vl⟩ := x
  simp only at m1 m2
  subst m1
  by_cases hv : vl = []
  · subst hv
    rw [tfR_e rfl, tfN_e rfl]
    exact hC.ret0 ⟨⟨sh2, []⟩, p', rfl, m2, m3, m4, fr_tsr0 (i := 0) sh2 rfl (by rw [hC.at']; rfl), rfl⟩
  · rw [tfR_ne hv, tfN_ne hv]
    exact hC.ret0 ⟨⟨sh2, vl⟩, p', rfl, m2, m3, m4, fr_tsr (i := 0) (j := 1) ⟨sh2, vl⟩ rfl rfl (by rw [hC.at']; rfl) (by rw [hC.at']; rfl), rfl⟩

/-- the bounds of a drawn tensor -/
def drB (x : Tsr) : Prop := x.sh.length ≤ 5 ∧ x.vl.length ≤ 100
theorem prod2 {a b : Int} (ha : 0 ≤ a ∧ a ≤ 5) (hb : 0 ≤ b ∧ b ≤ 5) : 0 ≤ prodW [a, b] ∧ prodW [a, b] ≤ 25 := by
  have h1 : 0 ≤ a * b := Int.mul_nonneg ha.1 hb.1
  have h2 : a * b ≤ 5 * 5 := Int.mul_le_mul ha.2 hb.2 hb.1 (by omega)
  have : prodW [a, b] = a * b := by
    simp only [prodW, List.foldl_cons, List.foldl_nil, Int.one_mul]
    rw [wrap_in (n := a) (by omega), wrap_in (by omega)]
  omega
theorem selC_tsrD {g : Nat → Option Nat} {L : List Blk} {x : Tsr} : expE (selC g L) (tsrD x) = tsrD x := by
  show AV.agg [selC g L (ints 1 x.sh), selC g L (ints 1 x.vl)] = _
  rw [selC_d, selC_d]
theorem selV_tsrD {g : Nat → Option Nat} {L : List Blk} {x : Tsr} : selV g L (tsrD x) = tsrD x := selC_tsrD
theorem selV_two {g : Nat → Option Nat} {L : List Blk} {x y : Tsr} : selV g L (.tup [tsrD x, tsrD y]) = .tup [tsrD x, tsrD y] := by
  rw [selV_tup]
  simp only [List.map_cons, List.map_nil, selC_tsrD]
end Go.Proofs.Ytfjhhbpipococaa
