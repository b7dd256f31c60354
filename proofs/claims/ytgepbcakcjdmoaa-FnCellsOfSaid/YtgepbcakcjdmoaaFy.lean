/- Contracts of functions that the laws of this seat call. -/
import Derived.Test.YtgepbcakcjdmoaaFx
set_option linter.all false
namespace Go.Proofs.Ytgepbcakcjdmoaa
open Go Go.Ev Go.RowKit Go.Ev.Enc Go.Pl

def mmC (x y : Tsr) : Option Tsr := (extF [x, y] [[0, 1], [1, 2]]).bind (contrF [x, y] [[0, 1], [1, 2]] [0, 2])
def mmR (x y : Tsr) : Tsr × Bool := tsrT (mmC x y)
def mmB (x y : Tsr) : Prop := (x.sh.length < 4294967296 ∧ x.vl.length < 4294967296) ∧ (y.sh.length < 4294967296 ∧ y.vl.length < 4294967296)
instance (x y : Tsr) : Decidable (mmB x y) := by unfold mmB; infer_instance
def gMatMul (x y : Tsr) : Option (Tsr × Bool) := gd (mmB x y) (mmR x y)
theorem gMatMul_eq {x y : Tsr} (h : mmB x y) : gMatMul x y = some (mmR x y) := gd_eq h
theorem sz2 {x y : Tsr} (h : mmB x y) : szOK [x, y] [[0, 1], [1, 2]] :=
  ⟨(by decide : 2 < 4294967296), (by decide : 2 < 4294967296), fun k hk => by match k, hk with | 0, _ => exact h.1 | 1, _ => exact h.2, fun k hk => by match k, hk with | 0, _ => decide | 1, _ => decide⟩
theorem tsr_vl60 {t : Tsr} (h : tsrOK t = true) : t.vl.length ≤ 60 := by
  unfold tsrOK shapeOK at h
  simp only [Bool.and_eq_true, decide_eq_true_eq] at h
  omega
theorem mmC_len {x y t : Tsr} (h : mmC x y = some t) : t.sh.length = 2 := by
  unfold mmC at h
  simp only [Option.bind_eq_some_iff] at h
  obtain ⟨e, _, h2⟩ := h
  unfold contrF at h2
  split at h2
  · have := Option.some.inj h2
    subst this
    show (tkn e [0, 2]).length = 2
    rw [tkn_len]; rfl
  · simp at h2
/-- what a product may be -/
theorem mmR_cases (x y : Tsr) : mmR x y = (⟨[], []⟩, false) ∨ ∃ t, mmR x y = (t, true) ∧ t.sh.length = 2 ∧ t.vl.length ≤ 60 ∧ tsrOK t = true := by
  unfold mmR
  cases h : mmC x y with
  | none => exact .inl rfl
  | some t =>
    cases ht : tsrOK t with
    | false => exact .inl (by simp [tsrT, ht])
    | true => exact .inr ⟨t, by simp [tsrT, ht], mmC_len h, tsr_vl60 ht, ht⟩
theorem dec_t2 (x y : Tsr) : (dec (.ds 0 [.agg [.ds 0 (x.sh.map fun n => .int .i64 n), .ds 0 (x.vl.map fun n => .int .i64 n)], .agg [.ds 0 (y.sh.map fun n => .int .i64 n), .ds 0 (y.vl.map fun n => .int .i64 n)]]) : Option (List Tsr)) = some [x, y] := (ok _ _).2 rfl
theorem dec_0112 : (dec (.ds 0 [.ds 0 [.int .i64 0, .int .i64 1], .ds 0 [.int .i64 1, .int .i64 2]]) : Option (List (List Int))) = some [[0, 1], [1, 2]] := (ok _ _).2 rfl
theorem dec_02 : (dec (.ds 0 [.int .i64 0, .int .i64 2]) : Option (List Int)) = some [0, 2] := (ok _ _).2 rfl
theorem ee_t2 (L : List Blk) (x y : Tsr) : expE (expC 0 L) (.ds 2 [.agg [ints 0 x.sh, ints 0 x.vl], .agg [ints 0 y.sh, ints 0 y.vl]]) = .ds 0 [.agg [.ds 0 (x.sh.map fun n => .int .i64 n), .ds 0 (x.vl.map fun n => .int .i64 n)], .agg [.ds 0 (y.sh.map fun n => .int .i64 n), .ds 0 (y.vl.map fun n => .int .i64 n)]] := by
  simp [ints, expE, expC, stepC, Function.comp_def]
theorem ee_0112 (L : List Blk) : expE (expC 0 L) (.ds 2 [.ds 2 [.int .i64 0, .int .i64 1], .ds 2 [.int .i64 1, .int .i64 2]]) = .ds 0 [.ds 0 [.int .i64 0, .int .i64 1], .ds 0 [.int .i64 1, .int .i64 2]] := rfl
theorem ee_02 (L : List Blk) : expE (expC 0 L) (.ds 2 [.int .i64 0, .int .i64 2]) = .ds 0 [.int .i64 0, .int .i64 2] := rfl
end Go.Proofs.Ytgepbcakcjdmoaa
