/- Contracts of functions that the laws of this seat call. -/
import Derived.Test.YtgepbcakcjdmoaaFd
set_option linter.all false
namespace Go.Proofs.Ytgepbcakcjdmoaa
open Go Go.Ev Go.RowKit Go.Ev.Enc

/-- a tensor: its shape and its values -/
structure Tsr where
  sh : List Int
  vl : List Int
  deriving DecidableEq

instance : Enc Tsr where
  enc t x := .agg [ints t x.sh, ints t x.vl]
  dec | .agg [x, y] => (dec x).bind fun a => (dec y).map fun b => ⟨a, b⟩
      | _ => none
  ok x a := by
    constructor
    · intro h
      split at h
      · simp only [Option.bind_eq_some_iff, Option.map_eq_some_iff] at h
        obtain ⟨p, hp, q, hq, rfl⟩ := h
        rw [(ok _ _).1 hp, (ok _ _).1 hq]; rfl
      · simp at h
    · rintro rfl
      show ((dec (enc 0 a.sh)).bind fun p => (dec (enc 0 a.vl)).map fun q => (⟨p, q⟩ : Tsr)) = some a
      rw [(ok _ a.sh).2 rfl, (ok _ a.vl).2 rfl]; rfl
  own a := .agg _ (by
    intro x hx
    simp only [List.mem_cons, List.not_mem_nil, or_false] at hx
    rcases hx with rfl | rfl
    · exact own a.sh
    · exact own a.vl)

theorem enc_tsr (t : Nat) (x : Tsr) : (enc t x : AV) = .agg [ints t x.sh, ints t x.vl] := rfl
theorem enc_tsrs (t : Nat) (l : List Tsr) : (enc t l : AV) = .ds t (l.map fun x => .agg [ints t x.sh, ints t x.vl]) := rfl
theorem dec_tsr (a b : List Int) : (dec (.agg [.ds 0 (a.map fun n => .int .i64 n), .ds 0 (b.map fun n => .int .i64 n)]) : Option Tsr) = some ⟨a, b⟩ := (ok _ _).2 rfl
theorem dec_tsrs (l : List Tsr) : (dec (.ds 0 (l.map fun x => .agg [ints 0 x.sh, ints 0 x.vl])) : Option (List Tsr)) = some l := (ok _ _).2 rfl
theorem ee_tsrs (t t' : Nat) (L : List Blk) (l : List Tsr) : expE (expC t L) (.ds t' (l.map fun x => .agg [ints t' x.sh, ints t' x.vl])) = .ds (min t' t) (l.map fun x => .agg [ints (min t' t) x.sh, ints (min t' t) x.vl]) := by
  simp [expE, expC, stepC, Function.comp_def]
theorem getD_tsrs {t : Nat} {l : List Tsr} {k : Nat} (h : k < l.length) : (l.map fun x => AV.agg [ints t x.sh, ints t x.vl]).getD k .any = .agg [ints t (l.getD k ⟨[], []⟩).sh, ints t (l.getD k ⟨[], []⟩).vl] := by simp [h]

theorem tsr_eta (x : Tsr) : (⟨x.sh, x.vl⟩ : Tsr) = x := rfl
theorem gcV_tsrs (n : Nat) (L : List Blk) (t : Nat) (l : List Tsr) : gcV n L (.ds t (l.map fun x => .agg [ints t x.sh, ints t x.vl])) = .ds t (l.map fun x => .agg [ints t x.sh, ints t x.vl]) := by
  simp [gcV, expE, gcC, gcStep, Function.comp_def]
theorem expS_tsrs (t t' : Nat) (L : List Blk) (e ver off len : Nat) (q : List Tsr) : expS t L ver off len (some ⟨e, q.map fun x => .agg [ints t' x.sh, ints t' x.vl]⟩) = if q.length = ver ∧ off + len ≤ ver then .ds t (((q.drop off).take len).map fun x => .agg [ints (min t' t) x.sh, ints (min t' t) x.vl]) else .any := by
  simp [expS, expE, stepC, Function.comp_def]
attribute [go_sem] expS_tsrs gcV_tsrs enc_tsr enc_tsrs dec_tsr dec_tsrs ee_tsrs tsr_eta

def gArePair (l : List Tsr) (i j : Int) : Option Bool := gd (l.length < 4294967296) (decide (0 ≤ i ∧ i < l.length ∧ 0 ≤ j ∧ j < l.length ∧ i ≠ j))
theorem gArePair_eq {l : List Tsr} (h : l.length < 4294967296) (i j : Int) : gArePair l i j = some (decide (0 ≤ i ∧ i < l.length ∧ 0 ≤ j ∧ j < l.length ∧ i ≠ j)) := gd_eq h
def notEnt (x : Int) : Bool := decide (x < -1000000) || decide (1000000 < x)
def tsrOK (x : Tsr) : Bool := shapeOK x.sh && decide ((x.vl.length : Int) = prodW x.sh) && !x.vl.any notEnt
def gIsTensor (x : Tsr) : Option Bool := gd (x.sh.length < 4294967296 ∧ x.vl.length < 4294967296) (tsrOK x)
theorem gIsTensor_eq {x : Tsr} (h : x.sh.length < 4294967296) (h' : x.vl.length < 4294967296) : gIsTensor x = some (tsrOK x) := gd_eq ⟨h, h'⟩
end Go.Proofs.Ytgepbcakcjdmoaa
