/- Contracts of functions on views and memories that the laws of this seat call. -/
import Derived.Test.YtkmnepmnjpdpkaaDoorZA
import Derived.Lib.ItoaNum
import Derived.Lib.ItoaLen
set_option linter.all false
namespace Go.Proofs.YtkmnepmnjpdpkaaDoor
open Go Go.Ev Go.RowKit Go.Ev.Enc Go.Pl

end Go.Proofs.YtkmnepmnjpdpkaaDoor
namespace Go.Proofs.YtkmnepmnjpdpkaaDoor
open Go Go.Ev Go.RowKit Go.Ev.Enc Go.Pl

instance (v : Vi) : Decidable (viM v) := by unfold viM; infer_instance
end Go.Proofs.YtkmnepmnjpdpkaaDoor
namespace Go.Proofs.YtkmnepmnjpdpkaaDoor
open Go Go.Ev Go.RowKit Go.Ev.Enc Go.Pl

section
end
end Go.Proofs.YtkmnepmnjpdpkaaDoor
namespace Go.Proofs.YtkmnepmnjpdpkaaDoor
open Go Go.Ev Go.RowKit Go.Ev.Enc Go.Pl

end Go.Proofs.YtkmnepmnjpdpkaaDoor
namespace Go.Proofs.YtkmnepmnjpdpkaaDoor
open Go Go.Ev Go.RowKit Go.Ev.Enc Go.Pl

end Go.Proofs.YtkmnepmnjpdpkaaDoor
namespace Go.Proofs.YtkmnepmnjpdpkaaDoor
open Go Go.Ev Go.RowKit Go.Ev.Enc Go.Pl

abbrev bs (l : List UInt8) : ByteArray := ⟨l.toArray⟩
instance : Enc ByteArray where
  enc _ s := .str s
  dec | .str s => some s
      | _ => none
  ok x a := by
    constructor
    · intro h; split at h <;> simp at h; rw [h]
    · rintro rfl; rfl
  own _ := .str _
theorem enc_str (t : Nat) (s : ByteArray) : (enc t s : AV) = .str s := rfl
theorem dec_str (s : ByteArray) : (dec (.str s) : Option ByteArray) = some s := rfl
attribute [go_sem] enc_str dec_str
theorem bs_app (a b : List UInt8) : bs a ++ bs b = bs (a ++ b) := by
  apply ByteArray.ext
  simp
theorem bs_size (a : List UInt8) : (bs a).size = a.length := by simp [ByteArray.size]
def cSp : ByteArray := bs [32]
def cHas : ByteArray := bs [104, 97, 115]
def cAt : ByteArray := bs [97, 116, 32]
def cNo : ByteArray := bs [110, 111]
def cOk : ByteArray := bs [111, 107]
def cNl : ByteArray := bs [10]
theorem k_sp : AV.str ⟨#[32]⟩ = AV.str cSp := rfl
theorem k_has : AV.str ⟨#[104, 97, 115]⟩ = AV.str cHas := rfl
theorem k_at : AV.str ⟨#[97, 116, 32]⟩ = AV.str cAt := rfl
theorem k_no : AV.str ⟨#[110, 111]⟩ = AV.str cNo := rfl
theorem k_ok : AV.str ⟨#[111, 107]⟩ = AV.str cOk := rfl
theorem k_nl : AV.str ⟨#[10]⟩ = AV.str cNl := rfl
attribute [go_sem] k_sp k_has k_at k_no k_ok k_nl
def numB (n : Int) : ByteArray := bs (Lib.itoa n)
def i64R (n : Int) : Prop := -9223372036854775808 ≤ n ∧ n ≤ 9223372036854775807
instance (n : Int) : Decidable (i64R n) := by unfold i64R; infer_instance
def msrN (n : Int) : Nat := 2 * n.natAbs + if n < 0 then 1 else 0
def gNumK (k : Nat) (n : Int) : Option ByteArray := gd (i64R n ∧ msrN n < k) (numB n)
theorem gNumK_eq {k : Nat} {n : Int} (h : i64R n ∧ msrN n < k) : gNumK k n = some (numB n) := gd_eq h
def gNum (n : Int) : Option ByteArray := gd (i64R n) (numB n)
theorem gNum_eq {n : Int} (h : i64R n) : gNum n = some (numB n) := gd_eq h
theorem numB_len {n : Int} (h : i64R n) : (numB n).size ≤ 21 := by
  unfold numB; rw [bs_size]; exact Lib.itoa_length_le n h.1 h.2
theorem numB_neg {n : Int} (h : n < 0) : bs [45] ++ numB (-n) = numB n := by
  unfold numB
  rw [bs_app]
  congr 2
  unfold Lib.itoa
  rw [if_pos h, if_neg (by omega)]
  simp only [List.singleton_append]
  congr 2
  omega
theorem numB_big {n : Int} (h : 10 ≤ n) : numB (n.tdiv 10) ++ numB (n.tmod 10) = numB n := by
  obtain ⟨m, rfl⟩ : ∃ m : Nat, n = m := ⟨n.toNat, by omega⟩
  unfold numB
  rw [bs_app]
  congr 2
  have e1 : (m : Int).tdiv 10 = ((m / 10 : Nat) : Int) := by rw [Int.tdiv_eq_ediv_of_nonneg (by omega)]; rfl
  have e2 : (m : Int).tmod 10 = ((m % 10 : Nat) : Int) := by rw [Int.tmod_eq_emod_of_nonneg (by omega)]; rfl
  rw [e1, e2]
  unfold Lib.itoa
  rw [if_neg (by omega), if_neg (by omega), if_neg (by omega)]
  simp only [Int.toNat_natCast]
  rw [Lib.decDigits_one (i := m % 10) (by omega)]
  conv => rhs; rw [Lib.decDigits, dif_neg (by omega)]
theorem numB_small {n : Int} (h0 : 0 ≤ n) (h : n < 10) : bs [UInt8.ofNat (48 + n.toNat)] = numB n := by
  unfold numB Lib.itoa
  rw [if_neg (by omega), Lib.decDigits_one (by omega)]
theorem numB_min : (⟨#[45, 57, 50, 50, 51, 51, 55, 50, 48, 51, 54, 56, 53, 52, 55, 55, 53, 56, 48, 56]⟩ : ByteArray) = numB (-9223372036854775808) := by
  unfold numB Lib.itoa
  rw [if_pos (by decide)]
  simp [Lib.decDigits]
theorem dig_ex : ∀ m, m < 10 → (⟨#[48, 49, 50, 51, 52, 53, 54, 55, 56, 57]⟩ : ByteArray).extract m (m + 1) = bs [UInt8.ofNat (48 + m)]
  | 0, _ => rfl
  | 1, _ => rfl
  | 2, _ => rfl
  | 3, _ => rfl
  | 4, _ => rfl
  | 5, _ => rfl
  | 6, _ => rfl
  | 7, _ => rfl
  | 8, _ => rfl
  | 9, _ => rfl
  | m + 10, h => by omega
set_option maxHeartbeats 4000000 in
set_option maxRecDepth 100000 in
theorem num_step {Sg : FuncId → Option (List AV → Option AV)} (hS : Sound Tryd.prog Sg) {k : Nat} (hk : Sg 32 = some (F1 (gNumK k))) : ∀ a r, F1 (gNumK (k + 1)) a = some r → CSpec Tryd.prog 32 a r := by
  refine F1_spec ?_
  intro n r hr
  obtain ⟨⟨h1, h2⟩, rfl⟩ := gd_some hr
  refine CSpec.intro Tryd.func32 rfl (own _) (vc3_sound Tryd.pf hS hS _ _ _ ?_)
  by_cases hn : n < 0
  · by_cases hm : n = -9223372036854775808
    · subst hm
      have hw : (-9223372036854775808 : Int) = IntKind.i64.wrap (0 - -9223372036854775808) := by decide
      repeat' (first | with_reducible first | refine kI (by kernel_rfl) ?_ | refine kN (by kernel_rfl) ?_ | (first | refine kB1 ?_ ?_ | refine kB2 ?_ ?_) <;> intro hp | (first | refine kD1 ?_ ?_ | refine kD2 ?_ ?_ | refine kS1 ?_ ?_ | refine kS2 ?_ ?_) <;> intro hp <;> try simp only [hp] | simp -implicitDefEqProofs (disch := omega) only [go_sem, Nat.reduceAdd, Nat.reduceSub, reduceCtorEq, Nat.reduceLT, Nat.reduceLeDiff, Nat.reduceEqDiff, Nat.reduceMul, Int.reduceToNat, ↓reduceIte, List.take_of_length_le, if_pos, if_neg, List.getElem?_set_self, List.set_set, getD_exs, cnE, cnV, Tryd.ntmps32, Tryd.results32])
      all_goals first
        | (rw [numB_min]; done)
        | (rename_i hp; exact absurd hw hp)
    · have hw : IntKind.i64.wrap (0 - n) = -n := by rw [wrap_in (by unfold i64R at h1; omega)]; omega
      have hne : (n == -n) = false := beq_f (by omega)
      have q := gNumK_eq (k := k) (n := -n) ⟨by unfold i64R at *; omega, by unfold msrN at *; rw [if_pos hn] at h2; rw [if_neg (by omega)]; omega⟩
      have hsz : 1 + (numB (-n)).size ≤ 9223372036854775807 := by have := numB_len (n := -n) (by unfold i64R at *; omega); omega
      have hnb := numB_neg hn
      repeat' (first | with_reducible first | refine kI (by kernel_rfl) ?_ | refine kN (by kernel_rfl) ?_ | (first | refine kB1 ?_ ?_ | refine kB2 ?_ ?_) <;> intro hp | (first | refine kD1 ?_ ?_ | refine kD2 ?_ ?_ | refine kS1 ?_ ?_ | refine kS2 ?_ ?_) <;> intro hp <;> try simp only [hp] | simp -implicitDefEqProofs (disch := omega) only [go_sem, Nat.reduceAdd, Nat.reduceSub, reduceCtorEq, Nat.reduceLT, Nat.reduceLeDiff, Nat.reduceEqDiff, Nat.reduceMul, Int.reduceToNat, ↓reduceIte, List.take_of_length_le, if_pos, if_neg, List.getElem?_set_self, List.set_set, getD_exs, cnE, cnV, Tryd.ntmps32, Tryd.results32,  hn, hw, hne, hk, q, hsz, hnb])
      try rfl
  · by_cases h10 : n < 10
    · have hw : IntKind.i64.wrap (n + 1) = n + 1 := wrap_in (by omega)
      have he := numB_small (n := n) (by omega) h10
      have hd := dig_ex n.toNat (by omega)
      have h1' : (n + 1).toNat = n.toNat + 1 := by omega
      rw [he] at hd
      repeat' (first | with_reducible first | refine kI (by kernel_rfl) ?_ | refine kN (by kernel_rfl) ?_ | (first | refine kB1 ?_ ?_ | refine kB2 ?_ ?_) <;> intro hp | (first | refine kD1 ?_ ?_ | refine kD2 ?_ ?_ | refine kS1 ?_ ?_ | refine kS2 ?_ ?_) <;> intro hp <;> try simp only [hp] | simp -implicitDefEqProofs (disch := omega) only [go_sem, Nat.reduceAdd, Nat.reduceSub, reduceCtorEq, Nat.reduceLT, Nat.reduceLeDiff, Nat.reduceEqDiff, Nat.reduceMul, Int.reduceToNat, ↓reduceIte, List.take_of_length_le, if_pos, if_neg, List.getElem?_set_self, List.set_set, getD_exs, cnE, cnV, Tryd.ntmps32, Tryd.results32,  hn, h10, hw, h1', hd])
      try rfl
    · have q1 := gNumK_eq (k := k) (n := n.tdiv 10) ⟨by unfold i64R at *; rw [Int.tdiv_eq_ediv_of_nonneg (by omega)]; omega, by unfold msrN at *; rw [if_neg hn] at h2; rw [Int.tdiv_eq_ediv_of_nonneg (by omega), if_neg (by omega)]; omega⟩
      have q2 := gNumK_eq (k := k) (n := n.tmod 10) ⟨by unfold i64R at *; rw [Int.tmod_eq_emod_of_nonneg (by omega)]; omega, by unfold msrN at *; rw [if_neg hn] at h2; rw [Int.tmod_eq_emod_of_nonneg (by omega), if_neg (by omega)]; omega⟩
      have hw : IntKind.i64.wrap (n.tdiv 10) = n.tdiv 10 := wrap_in (by unfold i64R at h1; rw [Int.tdiv_eq_ediv_of_nonneg (by omega)]; omega)
      have hsz : (numB (n.tdiv 10)).size + (numB (n.tmod 10)).size ≤ 9223372036854775807 := (by
        have := numB_len (n := n.tdiv 10) (by unfold i64R at *; rw [Int.tdiv_eq_ediv_of_nonneg (by omega)]; omega)
        have := numB_len (n := n.tmod 10) (by unfold i64R at *; rw [Int.tmod_eq_emod_of_nonneg (by omega)]; omega)
        omega)
      have hnb := numB_big (n := n) (by omega)
      repeat' (first | with_reducible first | refine kI (by kernel_rfl) ?_ | refine kN (by kernel_rfl) ?_ | (first | refine kB1 ?_ ?_ | refine kB2 ?_ ?_) <;> intro hp | (first | refine kD1 ?_ ?_ | refine kD2 ?_ ?_ | refine kS1 ?_ ?_ | refine kS2 ?_ ?_) <;> intro hp <;> try simp only [hp] | simp -implicitDefEqProofs (disch := omega) only [go_sem, Nat.reduceAdd, Nat.reduceSub, reduceCtorEq, Nat.reduceLT, Nat.reduceLeDiff, Nat.reduceEqDiff, Nat.reduceMul, Int.reduceToNat, ↓reduceIte, List.take_of_length_le, if_pos, if_neg, List.getElem?_set_self, List.set_set, getD_exs, cnE, cnV, Tryd.ntmps32, Tryd.results32,  hn, h10, hw, hk, q1, q2, hsz, hnb])
      try rfl
theorem can_number : CanCall Tryd.prog 32 := ⟨_, Tryd.func32, rfl, rfl⟩
theorem num_all : ∀ (k : Nat) {Sg : FuncId → Option (List AV → Option AV)} (hS : Sound Tryd.prog Sg), ∀ a r, F1 (gNumK k) a = some r → CSpec Tryd.prog 32 a r
  | 0, _, _ => by
    refine F1_spec ?_
    intro n r hr
    obtain ⟨⟨_, h⟩, _⟩ := gd_some hr
    exact absurd h (Nat.not_lt_zero _)
  | k + 1, _, hS => num_step (hS.add can_number (num_all k hS)) (if_pos rfl)
set_option maxHeartbeats 4000000 in
set_option maxRecDepth 100000 in
theorem spec_number {Sg : FuncId → Option (List AV → Option AV)} (hS : Sound Tryd.prog Sg) : ∀ a r, F1 gNum a = some r → CSpec Tryd.prog 32 a r := by
  refine F1_spec ?_
  intro n r hr
  obtain ⟨h, rfl⟩ := gd_some hr
  refine num_all (msrN n + 1) hS [enc 0 n] _ ?_
  show ((dec (enc 0 n)).bind fun a => (gNumK (msrN n + 1) a).map (enc 1)) = _
  rw [(ok _ n).2 rfl, Option.bind_some, gNumK_eq ⟨h, by omega⟩]
  rfl
end Go.Proofs.YtkmnepmnjpdpkaaDoor
namespace Go.Proofs.YtkmnepmnjpdpkaaDoor
open Go Go.Ev Go.RowKit Go.Ev.Enc Go.Pl

def low (lo i : Nat) (be : AV) : Prop := lo ≤ i ∧ ∀ j a o n c, be = .sl j a o n c → lo ≤ j
def BR (lo : Nat) (M : List Blk) (v : AV) (B : Bf) : Prop := ∃ i be, v = .agg [.sl i B.c.length 0 B.c.length B.c.length, be] ∧ M[i]? = some (stB B.c) ∧ exAt M be B.e ∧ low lo i be
theorem get_ext {M : List Blk} {i : Nat} {k : Blk} (h : M[i]? = some k) (Y : List Blk) : (M ++ Y)[i]? = some k := by
  rw [List.getElem?_append_left (List.getElem?_eq_some_iff.1 h).1]; exact h
theorem exAt_ext {M : List Blk} {be : AV} {l : List Ex} (h : exAt M be l) (Y : List Blk) : exAt (M ++ Y) be l := by
  rcases h with h | ⟨h1, j, h2, h3⟩
  · exact .inl h
  · exact .inr ⟨h1, j, h2, get_ext h3 Y⟩
theorem BR.ext {lo : Nat} {M : List Blk} {v : AV} {B : Bf} (h : BR lo M v B) (Y : List Blk) : BR lo (M ++ Y) v B := by
  obtain ⟨i, be, h1, h2, h3, h4⟩ := h
  exact ⟨i, be, h1, get_ext h2 Y, exAt_ext h3 Y, h4⟩
theorem ee_l1 (t t' : Nat) (L : List Blk) (k : IntKind) (n : Int) : expE (expC t L) (.ds t' [.int k n]) = .ds (min t' t) [.int k n] := rfl
attribute [go_sem] ee_l1
structure Ac where
  k : Int
  n : List Int
  deriving DecidableEq
abbrev acA (t : Nat) (a : Ac) : AV := .agg [i64 a.k, ints t a.n]
def nedF (k : Int) : Nat := if k = 1 then 3 else if k = 2 then 4 else if k = 4 ∨ k = 5 then 2 else 1
def actN (a : Ac) : Prop := (0 ≤ a.k ∧ a.k ≤ 7) ∧ a.n.length = nedF a.k
end Go.Proofs.YtkmnepmnjpdpkaaDoor
namespace Go.Proofs.YtkmnepmnjpdpkaaDoor
open Go Go.Ev Go.RowKit Go.Ev.Enc Go.Pl

end Go.Proofs.YtkmnepmnjpdpkaaDoor
namespace Go.Proofs.YtkmnepmnjpdpkaaDoor
open Go Go.Ev Go.RowKit Go.Ev.Enc Go.Pl

end Go.Proofs.YtkmnepmnjpdpkaaDoor
