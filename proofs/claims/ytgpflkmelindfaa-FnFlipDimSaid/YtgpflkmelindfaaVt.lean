/- Contracts of functions that the laws of this seat call. -/
import Derived.Test.YtgpflkmelindfaaVs
set_option linter.all false
namespace Go.Proofs.Ytgpflkmelindfaa
open Go Go.Ev Go.RowKit Go.Ev.Enc Go.Pl

/-- two numbers and a mark -/
structure Wit where
  x : Int
  y : Int
  ok : Bool
  deriving DecidableEq
instance : Enc Wit where
  enc t w := .tup [.int .i64 w.x, .int .i64 w.y, .bool w.ok]
  dec | .tup [z, x, y] => (dec z).bind fun n => (dec x).bind fun a => (dec y).map fun b => ⟨n, a, b⟩
      | _ => none
  ok x a := by
    constructor
    · intro h
      split at h
      · simp only [Option.bind_eq_some_iff, Option.map_eq_some_iff] at h
        obtain ⟨n, hn, p, hp, q, hq, rfl⟩ := h
        rw [(ok _ _).1 hn, (ok _ _).1 hp, (ok _ _).1 hq]; rfl
      · simp at h
    · rintro rfl
      show ((dec (enc 0 a.x)).bind fun n => (dec (enc 0 a.y)).bind fun p => (dec (enc 0 a.ok)).map fun q => (⟨n, p, q⟩ : Wit)) = some a
      rw [(ok _ a.x).2 rfl, (ok _ a.y).2 rfl, (ok _ a.ok).2 rfl]; rfl
  own a := .tup _ (by
    intro x hx
    simp only [List.mem_cons, List.not_mem_nil, or_false] at hx
    rcases hx with rfl | rfl | rfl
    · exact own a.x
    · exact own a.y
    · exact own a.ok)
theorem enc_wit (t : Nat) (w : Wit) : (enc t w : AV) = .tup [.int .i64 w.x, .int .i64 w.y, .bool w.ok] := rfl
attribute [go_sem] enc_wit
/-! ### covers -/
theorem both_all {A B : List Int} (hB : inC B) : decide ((bothF A B).length = (srt B).length) = B.all fun x => A.contains x := by
  have e : bothF A B = (srt B).filter fun x => A.contains x := by
    refine asc_ext (both_asc A B) ((srt_asc B).sublist List.filter_sublist) fun x => ?_
    rw [List.mem_filter, List.contains_iff_mem, srt_mem, mem_both]
    exact ⟨fun h => ⟨h.2.2, h.2.1⟩, fun h => ⟨hB x h.1, h.2, h.1⟩⟩
  rw [e, Bool.eq_iff_iff, decide_eq_true_eq, List.length_filter_eq_length_iff, List.all_eq_true]
  exact ⟨fun h x hx => h x ((srt_mem B x).2 hx), fun h x hx => h x ((srt_mem B x).1 hx)⟩
def gCov (a b : Vi) : Option Bool := gd (viB2 a b) (okk a b && (offF b).all fun x => (offF a).contains x)
theorem gCov_eq {a b : Vi} (h : viB2 a b) : gCov a b = some (okk a b && (offF b).all fun x => (offF a).contains x) := gd_eq h
set_option maxHeartbeats 4000000 in
set_option maxRecDepth 100000 in
theorem spec_CoversViewI {Sg : FuncId → Option (List AV → Option AV)} (hS : Sound Try.prog Sg) (hv : Sg 51 = some (F1 gValidV)) (ho : Sg 73 = some (F2 gOv)) (hc : Sg 54 = some (F1 gCells)) : ∀ a r, F2 gCov a = some r → CSpec Try.prog 46 a r := by
  refine F2_spec ?_
  intro a b r hr
  obtain ⟨⟨ha, hb⟩, rfl⟩ := gd_some hr
  refine CSpec.intro Try.func46 rfl (own _) (vc3_sound Try.pf hS hS _ _ _ ?_)
  have q1 := gValidV_eq ha
  have q2 := gValidV_eq hb
  cases e1 : viewOK a with
  | false =>
    rw [e1] at q1
    have eo : okk a b = false := by unfold okk; rw [e1]; rfl
    rw [eo, Bool.false_and]
    repeat' (first | with_reducible first | refine kI (by kernel_rfl) ?_ | refine kN (by kernel_rfl) ?_ | (first | refine kB1 ?_ ?_ | refine kB2 ?_ ?_) <;> intro hp | (first | refine kD1 ?_ ?_ | refine kD2 ?_ ?_ | refine kS1 ?_ ?_ | refine kS2 ?_ ?_) <;> intro hp <;> try simp only [hp] | simp -implicitDefEqProofs (disch := omega) only [go_sem, Nat.reduceAdd, Nat.reduceSub, reduceCtorEq, Nat.reduceLT, Nat.reduceLeDiff, Nat.reduceEqDiff, Nat.reduceMul, Int.reduceToNat, ↓reduceIte, List.take_of_length_le, if_pos, if_neg, List.getElem?_set_self, List.set_set, cnE, cnV, Try.ntmps46, Try.results46,  hv, q1])
  | true =>
    rw [e1] at q1
    cases e2 : viewOK b with
    | false =>
      rw [e2] at q2
      have eo : okk a b = false := by unfold okk; rw [e1, e2]; rfl
      rw [eo, Bool.false_and]
      repeat' (first | with_reducible first | refine kI (by kernel_rfl) ?_ | refine kN (by kernel_rfl) ?_ | (first | refine kB1 ?_ ?_ | refine kB2 ?_ ?_) <;> intro hp | (first | refine kD1 ?_ ?_ | refine kD2 ?_ ?_ | refine kS1 ?_ ?_ | refine kS2 ?_ ?_) <;> intro hp <;> try simp only [hp] | simp -implicitDefEqProofs (disch := omega) only [go_sem, Nat.reduceAdd, Nat.reduceSub, reduceCtorEq, Nat.reduceLT, Nat.reduceLeDiff, Nat.reduceEqDiff, Nat.reduceMul, Int.reduceToNat, ↓reduceIte, List.take_of_length_le, if_pos, if_neg, List.getElem?_set_self, List.set_set, cnE, cnV, Try.ntmps46, Try.results46,  hv, q1, q2])
    | true =>
      rw [e2] at q2
      rw [okk_iff.2 ⟨e1, e2⟩, Bool.true_and]
      have q3 := gOv_eq ⟨vOK e1, vOK e2⟩
      have q4 := ovF_eq (B := offF b) (offF_in e1)
      have q5 := gCells_eq (vOK e2)
      have q6 := both_all (A := offF a) (offF_in e2)
      have q7 : (((bothF (offF a) (offF b)).length : Int) == ((srt (offF b)).length : Int)) = (offF b).all fun x => (offF a).contains x := by
        rw [← q6, Bool.eq_iff_iff, beq_iff_eq, decide_eq_true_eq]; omega
      repeat' (first | with_reducible first | refine kI (by kernel_rfl) ?_ | refine kN (by kernel_rfl) ?_ | (first | refine kB1 ?_ ?_ | refine kB2 ?_ ?_) <;> intro hp | (first | refine kD1 ?_ ?_ | refine kD2 ?_ ?_ | refine kS1 ?_ ?_ | refine kS2 ?_ ?_) <;> intro hp <;> try simp only [hp] | simp -implicitDefEqProofs (disch := omega) only [go_sem, Nat.reduceAdd, Nat.reduceSub, reduceCtorEq, Nat.reduceLT, Nat.reduceLeDiff, Nat.reduceEqDiff, Nat.reduceMul, Int.reduceToNat, ↓reduceIte, List.take_of_length_le, if_pos, if_neg, List.getElem?_set_self, List.set_set, cnE, cnV, Try.ntmps46, Try.results46,  hv, q1, q2, ho, q3, q4, hc, q5, q7])
theorem all_take {p : Int → Bool} {l : List Int} {k : Nat} (hk : k < l.length) : (l.take (k + 1)).all p = ((l.take k).all p && p (l.getD k 0)) := by
  rw [take_snocI hk, List.all_append]; simp
/-! ### witnesses -/
def witF (a b : Vi) : Wit := if okk a b = true ∧ 0 < (bothF (offF a) (offF b)).length then ⟨plc (offF a) ((bothF (offF a) (offF b)).getD 0 0), plc (offF b) ((bothF (offF a) (offF b)).getD 0 0), true⟩ else ⟨-1, -1, false⟩
def gWit (a b : Vi) : Option Wit := gd (viB2 a b) (witF a b)
theorem gWit_eq {a b : Vi} (h : viB2 a b) : gWit a b = some (witF a b) := gd_eq h
theorem witF_n {a b : Vi} (h : okk a b = false) : witF a b = ⟨-1, -1, false⟩ := by unfold witF; rw [h]; rfl
end Go.Proofs.Ytgpflkmelindfaa
