/- Contracts of functions that the laws of this seat call. -/
import Derived.Test.YtgepbcakcjdmoaaFg
set_option linter.all false
namespace Go.Proofs.Ytgepbcakcjdmoaa
open Go Go.Ev Go.RowKit Go.Ev.Enc

theorem drop_getD {α : Type} {l : List α} {k : Nat} {d : α} (h : k < l.length) : l.drop k = l.getD k d :: l.drop (k + 1) := by
  rw [List.drop_eq_getElem_cons h]; simp [h]
theorem list_ext {α : Type} {a b : List α} {d : α} (h : a.length = b.length) (hi : ∀ i, i < a.length → a.getD i d = b.getD i d) : a = b := by
  refine List.ext_getElem h fun i h1 h2 => ?_
  have := hi i h1
  simpa [h1, h2] using this
theorem ints_ext {a b : List Int} (h : a.length = b.length) (hi : ∀ i, i < a.length → a.getD i 0 = b.getD i 0) : a = b := list_ext h hi
/-- a new slice, filled up to k -/
def fillA {α : Type} (f : α → AV) (l : List α) (k : Nat) (z : AV) : List AV := (l.take k).map f ++ List.replicate (l.length - k) z
theorem fillA_len {α : Type} {f : α → AV} {l : List α} {k : Nat} {z : AV} (h : k ≤ l.length) : (fillA f l k z).length = l.length := by
  simp [fillA]; omega
theorem fillA_at {α : Type} {f : α → AV} {l : List α} {k : Nat} {z : AV} (h : k < l.length) : (fillA f l k z).getD k .any = z := by
  unfold fillA
  have e : k - ((l.take k).map f).length = 0 := by simp; omega
  rw [List.getD_eq_getElem?_getD, List.getElem?_append_right (by simp; omega), e, show l.length - k = (l.length - (k + 1)) + 1 by omega, List.replicate_succ]
  rfl
theorem fillA_set {α : Type} {f : α → AV} {l : List α} {k : Nat} {z : AV} {d : α} (h : k < l.length) : (fillA f l k z).set k (f (l.getD k d)) = fillA f l (k + 1) z := by
  unfold fillA
  rw [List.set_append_right _ _ (by simp; omega)]
  have e : k - ((l.take k).map f).length = 0 := by simp; omega
  rw [e, show l.length - k = (l.length - (k + 1)) + 1 by omega, List.replicate_succ, List.set_cons_zero, List.take_succ_eq_append_getElem h, List.map_append]
  simp [h]
theorem fillA_full {α : Type} {f : α → AV} {l : List α} {z : AV} : fillA f l l.length z = l.map f := by simp [fillA]
theorem fillA_zero {α : Type} {f : α → AV} {l : List α} {z : AV} : fillA f l 0 z = List.replicate l.length z := by simp [fillA]

def szI (n : Nat) (left : Int) : Int := if left < n then -1 else left - n
def gSzInts (l : List Int) (left : Int) : Option Int := gd (l.length < 9223372036854775808 ∧ 0 ≤ left ∧ left ≤ 1048576) (szI l.length left)
theorem gSzInts_eq {l : List Int} {left : Int} (h : l.length < 9223372036854775808 ∧ 0 ≤ left ∧ left ≤ 1048576) : gSzInts l left = some (szI l.length left) := gd_eq h
theorem szI_neg {n : Nat} {left : Int} (h : left < n) : szI n left = -1 := if_pos h
theorem szI_m1 {n : Nat} {left : Int} (h : szI n left < 0) : szI n left = -1 := by
  by_cases hc : left < n
  · exact if_pos hc
  · unfold szI at h ⊢
    rw [if_neg hc] at h
    omega
theorem szI_pos {n : Nat} {left : Int} (h : ¬ left < n) : szI n left = left - n := if_neg h
def gToInts (l : List Int) : Option (List Int) := gd (l.length < 4294967296) l
theorem gToInts_eq {l : List Int} (h : l.length < 4294967296) : gToInts l = some l := gd_eq h
theorem enc1_intss (l : List (List Int)) : l.map (fun r => AV.ds 1 (r.map fun n => .int .i64 n)) = l.map (fun r => AV.ds 1 (r.map fun n => .int .i64 n)) := rfl
def rowsOK (l : List (List Int)) : Prop := ∀ k, k < l.length → (l.getD k []).length < 4294967296
instance (l : List (List Int)) : Decidable (rowsOK l) := by unfold rowsOK; infer_instance
def gToIntss (l : List (List Int)) : Option (List (List Int)) := gd (l.length < 4294967296 ∧ rowsOK l) l
theorem gToIntss_eq {l : List (List Int)} (h : l.length < 4294967296 ∧ rowsOK l) : gToIntss l = some l := gd_eq h
def tsrB (x : Tsr) : Prop := x.sh.length < 4294967296 ∧ x.vl.length < 4294967296
instance (x : Tsr) : Decidable (tsrB x) := by unfold tsrB; infer_instance
def gToTsr (x : Tsr) : Option Tsr := gd (tsrB x) x
theorem gToTsr_eq {x : Tsr} (h : tsrB x) : gToTsr x = some x := gd_eq h
def gEqInts (a b : List Int) : Option Bool := gd (a.length < 4294967296 ∧ b.length < 4294967296) (decide (a = b))
theorem gEqInts_eq {a b : List Int} (h : a.length < 4294967296 ∧ b.length < 4294967296) : gEqInts a b = some (decide (a = b)) := gd_eq h
def gEqIntss (a b : List (List Int)) : Option Bool := gd ((a.length < 4294967296 ∧ b.length < 4294967296) ∧ rowsOK a ∧ rowsOK b) (decide (a = b))
theorem gEqIntss_eq {a b : List (List Int)} (h : (a.length < 4294967296 ∧ b.length < 4294967296) ∧ rowsOK a ∧ rowsOK b) : gEqIntss a b = some (decide (a = b)) := gd_eq h
def gEqTsr (a b : Tsr) : Option Bool := gd (tsrB a ∧ tsrB b) (decide (a = b))
theorem gEqTsr_eq {a b : Tsr} (h : tsrB a ∧ tsrB b) : gEqTsr a b = some (decide (a = b)) := gd_eq h
theorem tsr_ext {a b : Tsr} (h : a.sh = b.sh) (h' : a.vl = b.vl) : a = b := by cases a; cases b; simp_all
def tsrsB (l : List Tsr) : Prop := ∀ k, k < l.length → tsrB (l.getD k ⟨[], []⟩)
instance (l : List Tsr) : Decidable (tsrsB l) := by unfold tsrsB; infer_instance
def gEqTsrs (a b : List Tsr) : Option Bool := gd ((a.length < 4294967296 ∧ b.length < 4294967296) ∧ tsrsB a ∧ tsrsB b) (decide (a = b))
theorem gEqTsrs_eq {a b : List Tsr} (h : (a.length < 4294967296 ∧ b.length < 4294967296) ∧ tsrsB a ∧ tsrsB b) : gEqTsrs a b = some (decide (a = b)) := gd_eq h
def gToTsrs (l : List Tsr) : Option (List Tsr) := gd (l.length < 4294967296 ∧ tsrsB l) l
theorem gToTsrs_eq {l : List Tsr} (h : l.length < 4294967296 ∧ tsrsB l) : gToTsrs l = some l := gd_eq h
/-- what is left of a budget -/
def szRows : List (List Int) → Int → Int
  | [], n => n
  | x :: r, n => if szI x.length n < 0 then -1 else szRows r (szI x.length n)
theorem szI_le {n : Nat} {left : Int} (h : ¬ szI n left < 0) : szI n left = left - n ∧ (n : Int) ≤ left := by
  unfold szI at *
  split at h <;> omega
theorem szRows_step {l : List (List Int)} {k : Nat} {n : Int} (h : k < l.length) : szRows (l.drop k) n = if szI (l.getD k []).length n < 0 then -1 else szRows (l.drop (k + 1)) (szI (l.getD k []).length n) := by
  rw [drop_getD (d := []) h]; rfl
def bigRows (l : List (List Int)) : Prop := ∀ k, k < l.length → (l.getD k []).length < 9223372036854775808
instance (l : List (List Int)) : Decidable (bigRows l) := by unfold bigRows; infer_instance
def szSS (l : List (List Int)) (left : Int) : Int := if szI l.length left < 0 then -1 else szRows l (szI l.length left)
def gSzIntss (l : List (List Int)) (left : Int) : Option Int := gd ((l.length < 9223372036854775808 ∧ 0 ≤ left ∧ left ≤ 1048576) ∧ bigRows l) (szSS l left)
theorem gSzIntss_eq {l : List (List Int)} {left : Int} (h : (l.length < 9223372036854775808 ∧ 0 ≤ left ∧ left ≤ 1048576) ∧ bigRows l) : gSzIntss l left = some (szSS l left) := gd_eq h
def szT (x : Tsr) (left : Int) : Int := if szI x.sh.length left < 0 then -1 else szI x.vl.length (szI x.sh.length left)
def tsrBig (x : Tsr) : Prop := x.sh.length < 9223372036854775808 ∧ x.vl.length < 9223372036854775808
instance (x : Tsr) : Decidable (tsrBig x) := by unfold tsrBig; infer_instance
def gSzTsr (x : Tsr) (left : Int) : Option Int := gd ((0 ≤ left ∧ left ≤ 1048576) ∧ tsrBig x) (szT x left)
theorem gSzTsr_eq {x : Tsr} {left : Int} (h : (0 ≤ left ∧ left ≤ 1048576) ∧ tsrBig x) : gSzTsr x left = some (szT x left) := gd_eq h
def szTs : List Tsr → Int → Int
  | [], n => n
  | x :: r, n => if szT x n < 0 then -1 else szTs r (szT x n)
theorem szT_le {x : Tsr} {left : Int} (h : ¬ szT x left < 0) : szT x left = left - x.sh.length - x.vl.length ∧ (x.sh.length : Int) + x.vl.length ≤ left := by
  by_cases h3 : szI x.sh.length left < 0
  · exact absurd (by rw [szT, if_pos h3]; omega) h
  · rw [szT, if_neg h3] at h ⊢
    have h1 := szI_le h3
    have h2 := szI_le h
    omega
theorem szTs_step {l : List Tsr} {k : Nat} {n : Int} (h : k < l.length) : szTs (l.drop k) n = if szT (l.getD k ⟨[], []⟩) n < 0 then -1 else szTs (l.drop (k + 1)) (szT (l.getD k ⟨[], []⟩) n) := by
  rw [drop_getD (d := ⟨[], []⟩) h]; rfl
def tsrsBig (l : List Tsr) : Prop := ∀ k, k < l.length → tsrBig (l.getD k ⟨[], []⟩)
instance (l : List Tsr) : Decidable (tsrsBig l) := by unfold tsrsBig; infer_instance
def szTS (l : List Tsr) (left : Int) : Int := if szI l.length left < 0 then -1 else szTs l (szI l.length left)
def gSzTsrs (l : List Tsr) (left : Int) : Option Int := gd ((l.length < 9223372036854775808 ∧ 0 ≤ left ∧ left ≤ 1048576) ∧ tsrsBig l) (szTS l left)
theorem gSzTsrs_eq {l : List Tsr} {left : Int} (h : (l.length < 9223372036854775808 ∧ 0 ≤ left ∧ left ≤ 1048576) ∧ tsrsBig l) : gSzTsrs l left = some (szTS l left) := gd_eq h
/-- what a budget that is not used up says -/
theorem szSS_ok {l : List (List Int)} {left : Int} (hl : left ≤ 1048576) (h : ¬ szSS l left < 0) : l.length ≤ 1048576 ∧ (∀ k, k < l.length → (l.getD k []).length ≤ 1048576) ∧ szSS l left ≤ 1048576 := by
  unfold szSS at h ⊢
  split at h
  · omega
  · rename_i h0
    rw [if_neg h0]
    have h1 := szI_le h0
    have key : ∀ (r : List (List Int)) (n : Int), n ≤ 1048576 → ¬ szRows r n < 0 → (∀ x ∈ r, x.length ≤ 1048576) ∧ szRows r n ≤ 1048576 := by
      intro r
      induction r with
      | nil => intro n hn _; exact ⟨by simp, hn⟩
      | cons y r ih =>
        intro n hn hs
        unfold szRows at hs ⊢
        split at hs
        · omega
        · rename_i h2
          rw [if_neg h2]
          have h3 := szI_le h2
          have := ih _ (by omega) hs
          refine ⟨fun x hx => ?_, this.2⟩
          rcases List.mem_cons.1 hx with rfl | hx
          · omega
          · exact this.1 x hx
    have := key l _ (by omega) h
    exact ⟨by omega, fun k hk => this.1 _ (by simp [hk]), this.2⟩
theorem szTS_ok {l : List Tsr} {left : Int} (hl : left ≤ 1048576) (h : ¬ szTS l left < 0) : l.length ≤ 1048576 ∧ (∀ k, k < l.length → (l.getD k ⟨[], []⟩).sh.length ≤ 1048576 ∧ (l.getD k ⟨[], []⟩).vl.length ≤ 1048576) ∧ szTS l left ≤ 1048576 := by
  unfold szTS at h ⊢
  split at h
  · omega
  · rename_i h0
    rw [if_neg h0]
    have h1 := szI_le h0
    have key : ∀ (r : List Tsr) (n : Int), n ≤ 1048576 → ¬ szTs r n < 0 → (∀ x ∈ r, x.sh.length ≤ 1048576 ∧ x.vl.length ≤ 1048576) ∧ szTs r n ≤ 1048576 := by
      intro r
      induction r with
      | nil => intro n hn _; exact ⟨by simp, hn⟩
      | cons y r ih =>
        intro n hn hs
        unfold szTs at hs ⊢
        split at hs
        · omega
        · rename_i h2
          rw [if_neg h2]
          have h3 := szT_le h2
          have := ih _ (by omega) hs
          refine ⟨fun x hx => ?_, this.2⟩
          rcases List.mem_cons.1 hx with rfl | hx
          · omega
          · exact this.1 x hx
    have := key l _ (by omega) h
    exact ⟨by omega, fun k hk => this.1 _ (by simp [hk]), this.2⟩
end Go.Proofs.Ytgepbcakcjdmoaa
