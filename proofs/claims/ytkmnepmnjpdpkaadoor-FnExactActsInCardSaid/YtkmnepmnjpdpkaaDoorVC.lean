/- Contracts of functions on views and memories that the laws of this seat call. -/
import Derived.Test.YtkmnepmnjpdpkaaDoorVB
set_option linter.all false
namespace Go.Proofs.YtkmnepmnjpdpkaaDoor
open Go Go.Ev Go.RowKit Go.Ev.Enc Go.Pl

end Go.Proofs.YtkmnepmnjpdpkaaDoor
namespace Go.Proofs.YtkmnepmnjpdpkaaDoor
open Go Go.Ev Go.RowKit Go.Ev.Enc Go.Pl

end Go.Proofs.YtkmnepmnjpdpkaaDoor
namespace Go.Proofs.YtkmnepmnjpdpkaaDoor
open Go Go.Ev Go.RowKit Go.Ev.Enc Go.Pl

def viB2 (a b : Vi) : Prop := viB a ∧ viB b
instance (a b : Vi) : Decidable (viB2 a b) := by unfold viB2; infer_instance
end Go.Proofs.YtkmnepmnjpdpkaaDoor
namespace Go.Proofs.YtkmnepmnjpdpkaaDoor
open Go Go.Ev Go.RowKit Go.Ev.Enc Go.Pl

structure Wit where
  x : Int
  y : Int
  ok : Bool
  deriving DecidableEq
instance : Enc Wit where
  enc t w := .tup [.int .i64 w.x, .int .i64 w.y, .bool w.ok]
  dec | .tup [z, x, y] => (dec z).bind fun n => (dec x).bind fun a => (dec y).map fun b => ⟨n, a, b⟩
      | _ => none
  ok x a := by
    constructor
    · intro h
      split at h
      · simp only [Option.bind_eq_some_iff, Option.map_eq_some_iff] at h
        obtain ⟨n, hn, p, hp, q, hq, rfl⟩ := h
        rw [(ok _ _).1 hn, (ok _ _).1 hp, (ok _ _).1 hq]; rfl
      · simp at h
    · rintro rfl
      show ((dec (enc 0 a.x)).bind fun n => (dec (enc 0 a.y)).bind fun p => (dec (enc 0 a.ok)).map fun q => (⟨n, p, q⟩ : Wit)) = some a
      rw [(ok _ a.x).2 rfl, (ok _ a.y).2 rfl, (ok _ a.ok).2 rfl]; rfl
  own a := .tup _ (by
    intro x hx
    simp only [List.mem_cons, List.not_mem_nil, or_false] at hx
    rcases hx with rfl | rfl | rfl
    · exact own a.x
    · exact own a.y
    · exact own a.ok)
theorem enc_wit (t : Nat) (w : Wit) : (enc t w : AV) = .tup [.int .i64 w.x, .int .i64 w.y, .bool w.ok] := rfl
attribute [go_sem] enc_wit
theorem all_take {p : Int → Bool} {l : List Int} {k : Nat} (hk : k < l.length) : (l.take (k + 1)).all p = ((l.take k).all p && p (l.getD k 0)) := by
  rw [take_snocI hk, List.all_append]; simp
end Go.Proofs.YtkmnepmnjpdpkaaDoor
namespace Go.Proofs.YtkmnepmnjpdpkaaDoor
open Go Go.Ev Go.RowKit Go.Ev.Enc Go.Pl

end Go.Proofs.YtkmnepmnjpdpkaaDoor
namespace Go.Proofs.YtkmnepmnjpdpkaaDoor
open Go Go.Ev Go.RowKit Go.Ev.Enc Go.Pl

end Go.Proofs.YtkmnepmnjpdpkaaDoor
namespace Go.Proofs.YtkmnepmnjpdpkaaDoor
open Go Go.Ev Go.RowKit Go.Ev.Enc Go.Pl

end Go.Proofs.YtkmnepmnjpdpkaaDoor
namespace Go.Proofs.YtkmnepmnjpdpkaaDoor
open Go Go.Ev Go.RowKit Go.Ev.Enc Go.Pl

def viol (A B : List Int) (back : Bool) (i k : Nat) : Prop := A.getD i 0 = B.getD k 0 ∧ if back = true then k < i else i < k
instance (A B : List Int) (back : Bool) (i k : Nat) : Decidable (viol A B back i k) := by unfold viol; infer_instance
end Go.Proofs.YtkmnepmnjpdpkaaDoor
namespace Go.Proofs.YtkmnepmnjpdpkaaDoor
open Go Go.Ev Go.RowKit Go.Ev.Enc Go.Pl

def vsB (l : List Vi) : Prop := l.length ≤ 1000 ∧ ∀ v ∈ l, viB v
instance (l : List Vi) : Decidable (vsB l) := by unfold vsB; infer_instance
end Go.Proofs.YtkmnepmnjpdpkaaDoor
namespace Go.Proofs.YtkmnepmnjpdpkaaDoor
open Go Go.Ev Go.RowKit Go.Ev.Enc Go.Pl

theorem enc_rgs (t : Nat) (l : List Rg) : (enc t l : AV) = .ds t (l.map fun x => .agg [.int .i64 x.a, .int .i64 x.z, .int .i64 x.s]) := rfl
theorem dec_rgs (l : List Rg) : (dec (.ds 0 (l.map fun x => .agg [.int .i64 x.a, .int .i64 x.z, .int .i64 x.s])) : Option (List Rg)) = some l := (ok _ _).2 rfl
theorem ee_rgs (t t' : Nat) (L : List Blk) (l : List Rg) : expE (expC t L) (.ds t' (l.map fun x => .agg [.int .i64 x.a, .int .i64 x.z, .int .i64 x.s])) = .ds (min t' t) (l.map fun x => .agg [.int .i64 x.a, .int .i64 x.z, .int .i64 x.s]) := by
  simp [expE, expC, stepC, Function.comp_def]
theorem gcV_rgs (n : Nat) (L : List Blk) (t : Nat) (l : List Rg) : gcV n L (.ds t (l.map fun x => .agg [.int .i64 x.a, .int .i64 x.z, .int .i64 x.s])) = .ds t (l.map fun x => .agg [.int .i64 x.a, .int .i64 x.z, .int .i64 x.s]) := by
  simp [gcV, expE, gcC, gcStep, Function.comp_def]
theorem expS_rgs (t : Nat) (L : List Blk) (e ver off len : Nat) (q : List Rg) : expS t L ver off len (some ⟨e, q.map fun x => .agg [.int .i64 x.a, .int .i64 x.z, .int .i64 x.s]⟩) = if q.length = ver ∧ off + len ≤ ver then .ds t (((q.drop off).take len).map fun x => .agg [.int .i64 x.a, .int .i64 x.z, .int .i64 x.s]) else .any := by
  simp [expS, expE, stepC, Function.comp_def]
theorem gcB_rgs (n : Nat) (L : List Blk) (e : Nat) (l : List Rg) : gcB n L ⟨e, l.map fun x => .agg [.int .i64 x.a, .int .i64 x.z, .int .i64 x.s]⟩ = ⟨e, l.map fun x => .agg [.int .i64 x.a, .int .i64 x.z, .int .i64 x.s]⟩ := by
  simp [gcB, expE, gcC, gcStep, Function.comp_def]
attribute [go_sem] gcB_rgs expS_rgs gcV_rgs enc_rgs dec_rgs ee_rgs
end Go.Proofs.YtkmnepmnjpdpkaaDoor
