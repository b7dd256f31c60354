/- Contracts of functions on views and memories that the laws of this seat call. -/
import Derived.Test.YtkmnepmnjpdpkaaDoorWC
import Derived.Test.YtkmnepmnjpdpkaaDoorEvC
set_option linter.all false
namespace Go.Proofs.YtkmnepmnjpdpkaaDoor
open Go Go.Ev Go.RowKit Go.Ev.Enc Go.Pl

structure Ex where
  p : Int
  v : Vi
  o : Bool
  deriving DecidableEq
abbrev exA (t : Nat) (x : Ex) : AV := .agg [.int .i64 x.p, .int .i64 x.v.b, ints t x.v.sh, ints t x.v.st, .bool x.o]
abbrev exL (t : Nat) (l : List Ex) : List AV := l.map fun x => .agg [.int .i64 x.p, .int .i64 x.v.b, ints t x.v.sh, ints t x.v.st, .bool x.o]
def ex0 : Ex := ⟨0, ⟨0, [], []⟩, false⟩
instance : Enc Ex where
  enc t x := exA t x
  dec | .agg [p, z, x, y, o] => (dec p).bind fun p => (dec z).bind fun n => (dec x).bind fun a => (dec y).bind fun b => (dec o).map fun o => ⟨p, ⟨n, a, b⟩, o⟩
      | _ => none
  ok x a := by
    constructor
    · intro h
      split at h
      · simp only [Option.bind_eq_some_iff, Option.map_eq_some_iff] at h
        obtain ⟨p, hp, n, hn, q, hq, r, hr, o, ho, rfl⟩ := h
        rw [(ok _ _).1 hp, (ok _ _).1 hn, (ok _ _).1 hq, (ok _ _).1 hr, (ok _ _).1 ho]; rfl
      · simp at h
    · rintro rfl
      show ((dec (enc 0 a.p)).bind fun p => (dec (enc 0 a.v.b)).bind fun n => (dec (enc 0 a.v.sh)).bind fun q => (dec (enc 0 a.v.st)).bind fun r => (dec (enc 0 a.o)).map fun o => (⟨p, ⟨n, q, r⟩, o⟩ : Ex)) = some a
      rw [(ok _ a.p).2 rfl, (ok _ a.v.b).2 rfl, (ok _ a.v.sh).2 rfl, (ok _ a.v.st).2 rfl, (ok _ a.o).2 rfl]; rfl
  own a := .agg _ (by
    intro x hx
    simp only [List.mem_cons, List.not_mem_nil, or_false] at hx
    rcases hx with rfl | rfl | rfl | rfl | rfl
    · exact own a.p
    · exact own a.v.b
    · exact own a.v.sh
    · exact own a.v.st
    · exact own a.o)
structure Bf where
  c : List Int
  e : List Ex
  deriving DecidableEq
abbrev bfA (t : Nat) (b : Bf) : AV := .agg [ints t b.c, .ds t (exL t b.e)]
instance : Enc Bf where
  enc t x := bfA t x
  dec | .agg [x, y] => (dec x).bind fun a => (dec y).map fun b => ⟨a, b⟩
      | _ => none
  ok x a := by
    constructor
    · intro h
      split at h
      · simp only [Option.bind_eq_some_iff, Option.map_eq_some_iff] at h
        obtain ⟨p, hp, q, hq, rfl⟩ := h
        rw [(ok _ _).1 hp, (ok _ _).1 hq]; rfl
      · simp at h
    · rintro rfl
      show ((dec (enc 0 a.c)).bind fun p => (dec (enc 0 a.e)).map fun q => (⟨p, q⟩ : Bf)) = some a
      rw [(ok _ a.c).2 rfl, (ok _ a.e).2 rfl]; rfl
  own a := .agg _ (by
    intro x hx
    simp only [List.mem_cons, List.not_mem_nil, or_false] at hx
    rcases hx with rfl | rfl
    · exact own a.c
    · exact own a.e)
theorem enc_ex (t : Nat) (x : Ex) : (enc t x : AV) = .agg [.int .i64 x.p, .int .i64 x.v.b, ints t x.v.sh, ints t x.v.st, .bool x.o] := rfl
theorem enc_exs (t : Nat) (l : List Ex) : (enc t l : AV) = .ds t (exL t l) := rfl
theorem enc_bf (t : Nat) (x : Bf) : (enc t x : AV) = .agg [ints t x.c, .ds t (exL t x.e)] := rfl
theorem dec_ex (p n : Int) (a b : List Int) (o : Bool) : (dec (.agg [.int .i64 p, .int .i64 n, ints 0 a, ints 0 b, .bool o]) : Option Ex) = some ⟨p, ⟨n, a, b⟩, o⟩ := (ok _ _).2 rfl
theorem dec_exs (l : List Ex) : (dec (.ds 0 (exL 0 l)) : Option (List Ex)) = some l := (ok _ _).2 rfl
theorem dec_bf (c : List Int) (l : List Ex) : (dec (.agg [ints 0 c, .ds 0 (exL 0 l)]) : Option Bf) = some ⟨c, l⟩ := (ok _ _).2 rfl
theorem dec_bf0 (c : List Int) : (dec (.agg [ints 0 c, .ds 0 []]) : Option Bf) = some ⟨c, []⟩ := (ok _ _).2 rfl
theorem dec_bf1 (l : List Ex) : (dec (.agg [.ds 0 [], .ds 0 (exL 0 l)]) : Option Bf) = some ⟨[], l⟩ := (ok _ _).2 rfl
theorem dec_bf2 : (dec (.agg [.ds 0 [], .ds 0 []]) : Option Bf) = some ⟨[], []⟩ := (ok _ _).2 rfl
theorem ee_exs (t t' : Nat) (L : List Blk) (l : List Ex) : expE (expC t L) (.ds t' (exL t' l)) = .ds (min t' t) (exL (min t' t) l) := by
  simp [expE, expC, stepC, Function.comp_def]
theorem getD_exs {t : Nat} {l : List Ex} {k : Nat} (h : k < l.length) : (exL t l).getD k .any = .agg [.int .i64 (l.getD k ex0).p, .int .i64 (l.getD k ex0).v.b, ints t (l.getD k ex0).v.sh, ints t (l.getD k ex0).v.st, .bool (l.getD k ex0).o] := by simp [h]
theorem gcV_exs (n : Nat) (L : List Blk) (t : Nat) (l : List Ex) : gcV n L (.ds t (exL t l)) = .ds t (exL t l) := by
  simp [gcV, expE, gcC, gcStep, Function.comp_def]
theorem gcC_exs (n : Nat) (L : List Blk) (t : Nat) (l : List Ex) : gcC n L (.ds t (exL t l)) = .ds t (exL t l) := gcV_exs n L t l
theorem expS_exs (t t' : Nat) (L : List Blk) (e ver off len : Nat) (q : List Ex) : expS t L ver off len (some ⟨e, exL t' q⟩) = if q.length = ver ∧ off + len ≤ ver then .ds t (exL (min t' t) ((q.drop off).take len)) else .any := by
  simp [expS, expE, stepC, Function.comp_def]
theorem all_exs_ok (t : Nat) (l : List Ex) : ((exL t l).all fun y => cellsOk y && decide (y.cells.length = 5)) = true := by
  rw [List.all_eq_true]
  intro x hx
  obtain ⟨n, -, rfl⟩ := List.mem_map.1 hx
  rfl
theorem all_exs_5 (t : Nat) (l : List Ex) : ((exL t l).all fun y => decide (5 = y.cells.length)) = true := by
  rw [List.all_eq_true]
  intro x hx
  obtain ⟨n, -, rfl⟩ := List.mem_map.1 hx
  rfl
attribute [go_sem] enc_ex enc_exs enc_bf dec_ex dec_exs dec_bf dec_bf0 dec_bf1 dec_bf2 ee_exs gcV_exs gcC_exs expS_exs all_exs_ok all_exs_5
abbrev exB (t : Nat) (l : List Ex) : Blk := ⟨5, exL t l⟩
def bfB (B : Bf) : Prop := B.c.length < 4294967296 ∧ B.e.length < 4294967296 ∧ ∀ i, i < B.e.length → viB (B.e.getD i ex0).v
instance (B : Bf) : Decidable (bfB B) := by unfold bfB; infer_instance
end Go.Proofs.YtkmnepmnjpdpkaaDoor
namespace Go.Proofs.YtkmnepmnjpdpkaaDoor
open Go Go.Ev Go.RowKit Go.Ev.Enc Go.Pl

end Go.Proofs.YtkmnepmnjpdpkaaDoor
namespace Go.Proofs.YtkmnepmnjpdpkaaDoor
open Go Go.Ev Go.RowKit Go.Ev.Enc Go.Pl

end Go.Proofs.YtkmnepmnjpdpkaaDoor
namespace Go.Proofs.YtkmnepmnjpdpkaaDoor
open Go Go.Ev Go.RowKit Go.Ev.Enc Go.Pl

end Go.Proofs.YtkmnepmnjpdpkaaDoor
namespace Go.Proofs.YtkmnepmnjpdpkaaDoor
open Go Go.Ev Go.RowKit Go.Ev.Enc Go.Pl

def exR (n : Nat) : List Ex → AV
  | [] => .nilS
  | x :: l => .sl n (x :: l).length 0 (x :: l).length (x :: l).length
theorem isCell_exR (n : Nat) (l : List Ex) : (exR n l).isCell = true := by cases l <;> rfl
theorem cellsOk_exR (n : Nat) (l : List Ex) : cellsOk (exR n l) = true := by cases l <;> rfl
theorem cells_exR (n : Nat) (l : List Ex) : (exR n l).cells = [exR n l] := by cases l <;> rfl
theorem elem_exR (n : Nat) (l : List Ex) : (exR n l).isElem = true := by cases l <;> rfl
attribute [go_sem] isCell_exR cellsOk_exR cells_exR elem_exR
theorem selM_exs {g : Nat → Option Nat} {L : List Blk} {t : Nat} {l : List Ex} : (exL t l).map (expE (selC g L)) = exL t l := by
  simp [expE, selC, selStep, Function.comp_def]
attribute [go_sem] selM_exs
def exAt (L : List Blk) (be : AV) (l : List Ex) : Prop := (l = [] ∧ be = .nilS) ∨ (l ≠ [] ∧ ∃ j, be = .sl j l.length 0 l.length l.length ∧ L[j]? = some (exB 1 l))
end Go.Proofs.YtkmnepmnjpdpkaaDoor
namespace Go.Proofs.YtkmnepmnjpdpkaaDoor
open Go Go.Ev Go.RowKit Go.Ev.Enc Go.Pl

theorem selC_exs {g : Nat → Option Nat} {L : List Blk} {t t' : Nat} {l : List Ex} : selC g L (.ds t (exL t' l)) = .ds t (exL t' l) := by
  simp [expE, selC, selStep, Function.comp_def]
attribute [go_sem] selC_exs
def bfM (B : Bf) : Prop := B.c.length ≤ 1048576 ∧ B.e.length ≤ 1048576 ∧ ∀ i, i < B.e.length → viM (B.e.getD i ex0).v
end Go.Proofs.YtkmnepmnjpdpkaaDoor
namespace Go.Proofs.YtkmnepmnjpdpkaaDoor
open Go Go.Ev Go.RowKit Go.Ev.Enc Go.Pl

end Go.Proofs.YtkmnepmnjpdpkaaDoor
namespace Go.Proofs.YtkmnepmnjpdpkaaDoor
open Go Go.Ev Go.RowKit Go.Ev.Enc Go.Pl

end Go.Proofs.YtkmnepmnjpdpkaaDoor
