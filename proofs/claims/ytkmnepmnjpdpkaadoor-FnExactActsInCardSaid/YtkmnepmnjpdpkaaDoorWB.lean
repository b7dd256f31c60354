/- Contracts of functions on views and memories that the laws of this seat call. -/
import Derived.Test.YtkmnepmnjpdpkaaDoorWA
set_option linter.all false
namespace Go.Proofs.YtkmnepmnjpdpkaaDoor
open Go Go.Ev Go.RowKit Go.Ev.Enc Go.Pl

end Go.Proofs.YtkmnepmnjpdpkaaDoor
namespace Go.Proofs.YtkmnepmnjpdpkaaDoor
open Go Go.Ev Go.RowKit Go.Ev.Enc Go.Pl

end Go.Proofs.YtkmnepmnjpdpkaaDoor
namespace Go.Proofs.YtkmnepmnjpdpkaaDoor
open Go Go.Ev Go.RowKit Go.Ev.Enc Go.Pl

end Go.Proofs.YtkmnepmnjpdpkaaDoor
namespace Go.Proofs.YtkmnepmnjpdpkaaDoor
open Go Go.Ev Go.RowKit Go.Ev.Enc Go.Pl

end Go.Proofs.YtkmnepmnjpdpkaaDoor
namespace Go.Proofs.YtkmnepmnjpdpkaaDoor
open Go Go.Ev Go.RowKit Go.Ev.Enc Go.Pl

end Go.Proofs.YtkmnepmnjpdpkaaDoor
namespace Go.Proofs.YtkmnepmnjpdpkaaDoor
open Go Go.Ev Go.RowKit Go.Ev.Enc Go.Pl

theorem gcV_tup (n : Nat) (L : List Blk) (l : List AV) : gcV n L (.tup l) = .tup (l.map (expE (gcC n L))) := rfl
theorem xE_int (n : Nat) (L : List Blk) (k : IntKind) (m : Int) : expE (gcC n L) (.int k m) = .int k m := rfl
theorem xE_bool (n : Nat) (L : List Blk) (b : Bool) : expE (gcC n L) (.bool b) = .bool b := rfl
theorem xE_agg (n : Nat) (L : List Blk) (l : List AV) : expE (gcC n L) (.agg l) = .agg (l.map (gcC n L)) := rfl
theorem gcC_ints' (n : Nat) (L : List Blk) (t : Nat) (l : List Int) : gcC n L (ints t l) = ints t l := by
  simp [gcC, gcStep, expE, ints, Function.comp_def]
attribute [go_sem] gcV_tup xE_int xE_bool xE_agg gcC_ints'
end Go.Proofs.YtkmnepmnjpdpkaaDoor
namespace Go.Proofs.YtkmnepmnjpdpkaaDoor
open Go Go.Ev Go.RowKit Go.Ev.Enc Go.Pl

def stB3 (m : List Int) (v : Vi) (V : List Int) : Prop := memB m v ∧ V.length < 4294967296
instance (m : List Int) (v : Vi) (V : List Int) : Decidable (stB3 m v V) := by unfold stB3; infer_instance
end Go.Proofs.YtkmnepmnjpdpkaaDoor
namespace Go.Proofs.YtkmnepmnjpdpkaaDoor
open Go Go.Ev Go.RowKit Go.Ev.Enc Go.Pl

def mB2 (m : List Int) (a b : Vi) : Prop := m.length < 4294967296 ∧ viB2 a b
instance (m : List Int) (a b : Vi) : Decidable (mB2 m a b) := by unfold mB2; infer_instance
instance (A : List Int) (n : Nat) : Decidable (inM A n) := by unfold inM; infer_instance
def stB4 (m A B O : List Int) : Prop := (m.length ≤ 1000 ∧ A.length < 4294967296 ∧ B.length < 4294967296 ∧ O.length < 4294967296) ∧ inM A m.length ∧ inM B m.length ∧ inM O A.length ∧ inM O B.length
instance (m A B O : List Int) : Decidable (stB4 m A B O) := by unfold stB4; infer_instance
end Go.Proofs.YtkmnepmnjpdpkaaDoor
