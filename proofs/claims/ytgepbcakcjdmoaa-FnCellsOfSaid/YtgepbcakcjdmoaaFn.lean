/- Contracts of functions that the laws of this seat call. -/
import Derived.Test.YtgepbcakcjdmoaaFm
set_option linter.all false
namespace Go.Proofs.Ytgepbcakcjdmoaa
open Go Go.Ev Go.RowKit Go.Ev.Enc Go.Pl

/-- a walk over all pairs i less than j -/
def inn {σ : Type} (f : σ → Nat → Nat → σ) (n i : Nat) : Nat → σ → σ
  | 0, s => s
  | k + 1, s => inn f n i k (f s i (n - (k + 1)))
def outW {σ : Type} (f : σ → Nat → Nat → σ) (n : Nat) : Nat → σ → σ
  | 0, s => s
  | k + 1, s => outW f n k (inn f n (n - (k + 1)) k s)
theorem inn_step {σ : Type} {f : σ → Nat → Nat → σ} {n i j : Nat} {s : σ} (h : j < n) : inn f n i (n - j) s = inn f n i (n - (j + 1)) (f s i j) := by
  rw [show n - j = (n - (j + 1)) + 1 by omega, inn]
  rw [show n - (n - (j + 1) + 1) = j by omega]
theorem outW_step {σ : Type} {f : σ → Nat → Nat → σ} {n i : Nat} {s : σ} (h : i < n) : outW f n (n - i) s = outW f n (n - (i + 1)) (inn f n i (n - (i + 1)) s) := by
  rw [show n - i = (n - (i + 1)) + 1 by omega, outW]
  rw [show n - (n - (i + 1) + 1) = i by omega]
def stp (c : Int → Int → Int) (p : Int × Int) (i j : Nat) : Int × Int := if c i j < c p.1 p.2 then ((i : Int), (j : Int)) else p
def stpS (c : Int → Int → Int) (p : Option (Int × Int)) (i j : Nat) : Option (Int × Int) :=
  match p with
  | none => some ((i : Int), (j : Int))
  | some q => some (stp c q i j)
theorem inn_some (c : Int → Int → Int) (n i : Nat) : ∀ k p, inn (stpS c) n i k (some p) = some (inn (stp c) n i k p)
  | 0, _ => rfl
  | k + 1, p => by rw [inn, inn]; exact inn_some c n i k _
theorem outW_some (c : Int → Int → Int) (n : Nat) : ∀ k p, outW (stpS c) n k (some p) = some (outW (stp c) n k p)
  | 0, _ => rfl
  | k + 1, p => by rw [outW, outW, inn_some]; exact outW_some c n k _
theorem best_two (c : Int → Int → Int) {n : Nat} (h : 2 ≤ n) : outW (stpS c) n n none = some (outW (stp c) n n (0, 1)) := by
  have h1 := outW_step (f := stpS c) (n := n) (i := 0) (s := none) (by omega)
  have h2 := outW_step (f := stp c) (n := n) (i := 0) (s := (0, 1)) (by omega)
  rw [Nat.sub_zero] at h1 h2
  rw [h1, h2, Nat.zero_add, inn_step (show 1 < n by omega), inn_step (show 1 < n by omega)]
  have e1 : stpS c none 0 1 = some (0, 1) := rfl
  have e2 : stp c (0, 1) 0 1 = (0, 1) := if_neg (Int.lt_irrefl _)
  rw [e1, e2, inn_some, outW_some]
theorem best_few (c : Int → Int → Int) {n : Nat} (h : n < 2) : outW (stpS c) n n none = none := by
  match n, h with
  | 0, _ => rfl
  | 1, _ => rfl
def pairR (p : Option (Int × Int)) : Int × Int :=
  match p with
  | none => (-1, -1)
  | some q => q
def bestF (l : List Tsr) (b : List (List Int)) (out : List Int) : Int × Int :=
  match extF l b with
  | none => (-1, -1)
  | some e => if labOK out = true then pairR (outW (stpS (costS e b out)) l.length l.length none) else (-1, -1)
def gBest (l : List Tsr) (b : List (List Int)) (out : List Int) : Option (Int × Int) := gd (szOK l b ∧ out.length ≤ 1048576) (bestF l b out)
theorem gBest_eq {l : List Tsr} {b : List (List Int)} {out : List Int} (h : szOK l b ∧ out.length ≤ 1048576) : gBest l b out = some (bestF l b out) := gd_eq h
/-- what the reference's variables hold -/
def bestRel (c : Int → Int → Int) (s : Option (Int × Int)) (x y v : Int) : Prop := (s = none ∧ x = -1 ∧ y = -1) ∨ (s = some (x, y) ∧ 0 ≤ x ∧ v = c x y)
def gTrue3 (l : List Tsr) (b : List (List Int)) (out : List Int) : Option Bool := gd ((l.length ≤ 9223372036854775807 ∧ b.length ≤ 9223372036854775807 ∧ out.length ≤ 9223372036854775807) ∧ tsrsBig l ∧ bigRows b) true
end Go.Proofs.Ytgepbcakcjdmoaa
