/- Contracts of functions that the laws of this seat call. -/
import Derived.Test.YtgepbcakcjdmoaaFu
set_option linter.all false
namespace Go.Proofs.Ytgepbcakcjdmoaa
open Go Go.Ev Go.RowKit Go.Ev.Enc Go.Pl

def traceR (r : Tsr × Bool) : Int × Bool := if r.2 = true then (r.1.vl.getD 0 0, true) else (0, false)
def trC (x : Tsr) : Option Tsr := (extF [x] [[0, 0]]).bind (contrF [x] [[0, 0]] [])
def gTrace (x : Tsr) : Option (Int × Bool) := gd (x.sh.length < 4294967296 ∧ x.vl.length < 4294967296) (traceR (tsrT (trC x)))
theorem gTrace_eq {x : Tsr} (h : x.sh.length < 4294967296 ∧ x.vl.length < 4294967296) : gTrace x = some (traceR (tsrT (trC x))) := gd_eq h
theorem sz1 {x : Tsr} (h : x.sh.length < 4294967296 ∧ x.vl.length < 4294967296) : szOK [x] [[0, 0]] :=
  ⟨(by decide : 1 < 4294967296), (by decide : 1 < 4294967296), fun k hk => by match k, hk with | 0, _ => exact h, fun k hk => by match k, hk with | 0, _ => decide⟩
theorem trC_len {x t : Tsr} (h : trC x = some t) : t.sh = [] ∧ t.vl.length = 1 := by
  unfold trC at h
  simp only [Option.bind_eq_some_iff] at h
  obtain ⟨e, _, h2⟩ := h
  unfold contrF at h2
  split at h2
  · have := Option.some.inj h2
    subst this
    exact ⟨rfl, by rw [contrV_len]; rfl⟩
  · simp at h2
theorem dec_t1 (x : Tsr) : (dec (.ds 0 [.agg [.ds 0 (x.sh.map fun n => .int .i64 n), .ds 0 (x.vl.map fun n => .int .i64 n)]]) : Option (List Tsr)) = some [x] := (ok _ _).2 rfl
theorem dec_00 : (dec (.ds 0 [.ds 0 [.int .i64 0, .int .i64 0]]) : Option (List (List Int))) = some [[0, 0]] := (ok _ _).2 rfl
theorem ee_t1 (L : List Blk) (x : Tsr) : expE (expC 0 L) (.ds 2 [.agg [ints 0 x.sh, ints 0 x.vl]]) = .ds 0 [.agg [.ds 0 (x.sh.map fun n => .int .i64 n), .ds 0 (x.vl.map fun n => .int .i64 n)]] := by
  simp [ints, expE, expC, stepC, Function.comp_def]
theorem ee_00 (L : List Blk) : expE (expC 0 L) (.ds 2 [.ds 2 [.int .i64 0, .int .i64 0]]) = .ds 0 [.ds 0 [.int .i64 0, .int .i64 0]] := rfl
theorem es_nil0 (L : List Blk) : expS 0 L 0 0 0 (some ⟨1, []⟩) = .ds 0 [] := by simp [expS]
def gTrueT (x : Tsr) : Option Bool := gd (tsrBig x) true
end Go.Proofs.Ytgepbcakcjdmoaa
