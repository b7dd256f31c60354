/- Contracts of functions on views and memories that the laws of this seat call. -/
import Derived.Test.YtokpibajolhelaaGreatVB
set_option linter.all false
namespace Go.Proofs.YtokpibajolhelaaGreat
open Go Go.Ev Go.RowKit Go.Ev.Enc Go.Pl

end Go.Proofs.YtokpibajolhelaaGreat
namespace Go.Proofs.YtokpibajolhelaaGreat
open Go Go.Ev Go.RowKit Go.Ev.Enc Go.Pl

end Go.Proofs.YtokpibajolhelaaGreat
namespace Go.Proofs.YtokpibajolhelaaGreat
open Go Go.Ev Go.RowKit Go.Ev.Enc Go.Pl

def ovF (A B : List Int) : List Int := (srt A).filter fun x => (srt B).contains x
theorem ovF_eq {A B : List Int} (h : inC A) : ovF A B = bothF A B := by
  refine asc_ext ((srt_asc A).sublist List.filter_sublist) (both_asc A B) fun x => ?_
  unfold ovF
  rw [List.mem_filter, List.contains_iff_mem, srt_mem, srt_mem, mem_both]
  exact ⟨fun h' => ⟨h x h'.1, h'⟩, fun h' => h'.2⟩
theorem flt_take {p : Int → Bool} {l : List Int} {k : Nat} (hk : k < l.length) : (l.take (k + 1)).filter p = (l.take k).filter p ++ (if p (l.getD k 0) = true then [l.getD k 0] else []) := by
  rw [take_snocI hk, List.filter_append]
  congr 1
  simp only [List.filter_cons, List.filter_nil]
def gOv (a b : Vi) : Option (List Int) := gd ((shapeOK a.sh = true ∧ a.st.length = a.sh.length) ∧ (shapeOK b.sh = true ∧ b.st.length = b.sh.length)) (ovF (offF a) (offF b))
theorem gOv_eq {a b : Vi} (h : (shapeOK a.sh = true ∧ a.st.length = a.sh.length) ∧ (shapeOK b.sh = true ∧ b.st.length = b.sh.length)) : gOv a b = some (ovF (offF a) (offF b)) := gd_eq h
set_option maxHeartbeats 4000000 in
set_option maxRecDepth 100000 in
theorem spec_overlapOf {Sg : FuncId → Option (List AV → Option AV)} (hS : Sound Tryz.prog Sg) (hc : Sg 57 = some (F1 gCells)) (hi : Sg 103 = some (F2 gContains)) : ∀ a r, F2 gOv a = some r → CSpec Tryz.prog 67 a r := by
  refine F2_spec ?_
  intro a b r hr
  obtain ⟨⟨ha, hb⟩, rfl⟩ := gd_some hr
  refine CSpec.intro Tryz.func67 rfl (own _) (vc3_sound Tryz.pf hS hS _ _ _ ?_)
  have a6 := offF_60 ha.1
  have b6 := offF_60 hb.1
  have q1 := gCells_eq (v := a) ha
  have q2 := gCells_eq (v := b) hb
  have la := srt_len (offF a)
  have lb := srt_len (offF b)
  unfold ovF
  repeat' (first | with_reducible first | refine kI (by kernel_rfl) ?_ | refine kN (by kernel_rfl) ?_ | (first | refine kB1 ?_ ?_ | refine kB2 ?_ ?_) <;> intro hp | (first | refine kD1 ?_ ?_ | refine kD2 ?_ ?_ | refine kS1 ?_ ?_ | refine kS2 ?_ ?_) <;> intro hp <;> try simp only [hp] | simp -implicitDefEqProofs (disch := omega) only [go_sem, Nat.reduceAdd, Nat.reduceSub, reduceCtorEq, Nat.reduceLT, Nat.reduceLeDiff, Nat.reduceEqDiff, Nat.reduceMul, Int.reduceToNat, ↓reduceIte, List.take_of_length_le, if_pos, if_neg, List.getElem?_set_self, List.set_set, cnE, cnV, Tryz.ntmps67, Tryz.results67,  hc, q1, q2])
  generalize srt (offF a) = A at *
  generalize srt (offF b) = B at *
  generalize offF a = A0 at *
  generalize offF b = B0 at *
  refine LoopQ.mix (fun t0 L0 nn ss => ∃ (k : Nat) (q : List Int) (m : Nat) (_ : Unit), (∃ x : Nat → AV, ss = ⟨mixL 0 (.k :: .k :: .k :: .k :: .k :: .k :: .v (.sl 2 m 0 m m) :: .k :: .s :: .k :: .k :: .k :: .k :: .k :: .k :: .v (i64 (k : Nat)) :: .s :: .s :: .s :: .s :: .s :: .s :: .s :: .s :: .s :: .s :: .s :: .k :: []) t0 x, [viB0 a, viB0 b, ⟨1, q.map fun n => .int .i64 n⟩]⟩) ∧ (k ≤ A.length) ∧ (q.length = m ∧ m ≤ k) ∧ (q = (A.take k).filter fun x => B.contains x) ∧ nn = A.length - k) ?_ ?_
  · exact ⟨_, ⟨0, [], 0, (), mixI rfl, Nat.zero_le _, ⟨rfl, Nat.zero_le _⟩, rfl, rfl⟩⟩
  · rintro I0 hI0 nn s ⟨k, q, m, _, ⟨x, rfl⟩, g1, ⟨g2, g2'⟩, g3, rfl⟩
    by_cases hk : k < A.length
    · have hki : (k : Int) < (A.length : Int) := by omega
      have p1 := gContains_eq (l := B) (by omega) (A.getD k 0)
      have hf := flt_take (p := fun x => B.contains x) hk
      rw [← g3] at hf
      cases eb : B.contains (A.getD k 0) with
      | true =>
        simp only [eb, if_true] at hf
        rw [eb] at p1
        repeat' (first | with_reducible first | refine kI (by kernel_rfl) ?_ | refine kN (by kernel_rfl) ?_ | (first | refine kB1 ?_ ?_ | refine kB2 ?_ ?_) <;> intro hp | (first | refine kD1 ?_ ?_ | refine kD2 ?_ ?_ | refine kS1 ?_ ?_ | refine kS2 ?_ ?_) <;> intro hp <;> try simp only [hp] | simp -implicitDefEqProofs (disch := omega) only [go_sem, Nat.reduceAdd, Nat.reduceSub, reduceCtorEq, Nat.reduceLT, Nat.reduceLeDiff, Nat.reduceEqDiff, Nat.reduceMul, Int.reduceToNat, ↓reduceIte, List.take_of_length_le, if_pos, if_neg, List.getElem?_set_self, List.set_set, cnE, cnV, Tryz.ntmps67, Tryz.results67,  hki, hi, p1])
        exact ⟨A.length - (k + 1), by omega, hI0 _ _ ⟨k + 1, q ++ [A.getD k 0], m + 1, (), mixI rfl, hk, ⟨by simp [g2], by omega⟩, hf.symm, rfl⟩⟩
      | false =>
        simp only [eb, Bool.false_eq_true, if_false, List.append_nil] at hf
        rw [eb] at p1
        repeat' (first | with_reducible first | refine kI (by kernel_rfl) ?_ | refine kN (by kernel_rfl) ?_ | (first | refine kB1 ?_ ?_ | refine kB2 ?_ ?_) <;> intro hp | (first | refine kD1 ?_ ?_ | refine kD2 ?_ ?_ | refine kS1 ?_ ?_ | refine kS2 ?_ ?_) <;> intro hp <;> try simp only [hp] | simp -implicitDefEqProofs (disch := omega) only [go_sem, Nat.reduceAdd, Nat.reduceSub, reduceCtorEq, Nat.reduceLT, Nat.reduceLeDiff, Nat.reduceEqDiff, Nat.reduceMul, Int.reduceToNat, ↓reduceIte, List.take_of_length_le, if_pos, if_neg, List.getElem?_set_self, List.set_set, cnE, cnV, Tryz.ntmps67, Tryz.results67,  hki, hi, p1])
        exact ⟨A.length - (k + 1), by omega, hI0 _ _ ⟨k + 1, q, m, (), mixI rfl, hk, ⟨g2, by omega⟩, hf.symm, rfl⟩⟩
    · obtain rfl : k = A.length := by omega
      rw [List.take_length] at g3
      repeat' (first | with_reducible first | refine kI (by kernel_rfl) ?_ | refine kN (by kernel_rfl) ?_ | (first | refine kB1 ?_ ?_ | refine kB2 ?_ ?_) <;> intro hp | (first | refine kD1 ?_ ?_ | refine kD2 ?_ ?_ | refine kS1 ?_ ?_ | refine kS2 ?_ ?_) <;> intro hp <;> try simp only [hp] | simp -implicitDefEqProofs (disch := omega) only [go_sem, Nat.reduceAdd, Nat.reduceSub, reduceCtorEq, Nat.reduceLT, Nat.reduceLeDiff, Nat.reduceEqDiff, Nat.reduceMul, Int.reduceToNat, ↓reduceIte, List.take_of_length_le, if_pos, if_neg, List.getElem?_set_self, List.set_set, cnE, cnV, Tryz.ntmps67, Tryz.results67])
      rw [g3]
def viB2 (a b : Vi) : Prop := viB a ∧ viB b
instance (a b : Vi) : Decidable (viB2 a b) := by unfold viB2; infer_instance
def okk (a b : Vi) : Bool := viewOK a && viewOK b
theorem okk_iff {a b : Vi} : okk a b = true ↔ viewOK a = true ∧ viewOK b = true := by unfold okk; rw [Bool.and_eq_true]
theorem vOK {v : Vi} (h : viewOK v = true) : shapeOK v.sh = true ∧ v.st.length = v.sh.length := ⟨(viewOK_iff.1 h).1, (viewOK_iff.1 h).2.1⟩
end Go.Proofs.YtokpibajolhelaaGreat
namespace Go.Proofs.YtokpibajolhelaaGreat
open Go Go.Ev Go.RowKit Go.Ev.Enc Go.Pl

structure Wit where
  x : Int
  y : Int
  ok : Bool
  deriving DecidableEq
instance : Enc Wit where
  enc t w := .tup [.int .i64 w.x, .int .i64 w.y, .bool w.ok]
  dec | .tup [z, x, y] => (dec z).bind fun n => (dec x).bind fun a => (dec y).map fun b => ⟨n, a, b⟩
      | _ => none
  ok x a := by
    constructor
    · intro h
      split at h
      · simp only [Option.bind_eq_some_iff, Option.map_eq_some_iff] at h
        obtain ⟨n, hn, p, hp, q, hq, rfl⟩ := h
        rw [(ok _ _).1 hn, (ok _ _).1 hp, (ok _ _).1 hq]; rfl
      · simp at h
    · rintro rfl
      show ((dec (enc 0 a.x)).bind fun n => (dec (enc 0 a.y)).bind fun p => (dec (enc 0 a.ok)).map fun q => (⟨n, p, q⟩ : Wit)) = some a
      rw [(ok _ a.x).2 rfl, (ok _ a.y).2 rfl, (ok _ a.ok).2 rfl]; rfl
  own a := .tup _ (by
    intro x hx
    simp only [List.mem_cons, List.not_mem_nil, or_false] at hx
    rcases hx with rfl | rfl | rfl
    · exact own a.x
    · exact own a.y
    · exact own a.ok)
theorem enc_wit (t : Nat) (w : Wit) : (enc t w : AV) = .tup [.int .i64 w.x, .int .i64 w.y, .bool w.ok] := rfl
attribute [go_sem] enc_wit
theorem both_all {A B : List Int} (hB : inC B) : decide ((bothF A B).length = (srt B).length) = B.all fun x => A.contains x := by
  have e : bothF A B = (srt B).filter fun x => A.contains x := by
    refine asc_ext (both_asc A B) ((srt_asc B).sublist List.filter_sublist) fun x => ?_
    rw [List.mem_filter, List.contains_iff_mem, srt_mem, mem_both]
    exact ⟨fun h => ⟨h.2.2, h.2.1⟩, fun h => ⟨hB x h.1, h.2, h.1⟩⟩
  rw [e, Bool.eq_iff_iff, decide_eq_true_eq, List.length_filter_eq_length_iff, List.all_eq_true]
  exact ⟨fun h x hx => h x ((srt_mem B x).2 hx), fun h x hx => h x ((srt_mem B x).1 hx)⟩
def gCov (a b : Vi) : Option Bool := gd (viB2 a b) (okk a b && (offF b).all fun x => (offF a).contains x)
theorem gCov_eq {a b : Vi} (h : viB2 a b) : gCov a b = some (okk a b && (offF b).all fun x => (offF a).contains x) := gd_eq h
set_option maxHeartbeats 4000000 in
set_option maxRecDepth 100000 in
theorem spec_CoversViewI {Sg : FuncId → Option (List AV → Option AV)} (hS : Sound Tryz.prog Sg) (hv : Sg 37 = some (F1 gValidV)) (ho : Sg 67 = some (F2 gOv)) (hc : Sg 57 = some (F1 gCells)) : ∀ a r, F2 gCov a = some r → CSpec Tryz.prog 31 a r := by
  refine F2_spec ?_
  intro a b r hr
  obtain ⟨⟨ha, hb⟩, rfl⟩ := gd_some hr
  refine CSpec.intro Tryz.func31 rfl (own _) (vc3_sound Tryz.pf hS hS _ _ _ ?_)
  have q1 := gValidV_eq ha
  have q2 := gValidV_eq hb
  cases e1 : viewOK a with
  | false =>
    rw [e1] at q1
    have eo : okk a b = false := by unfold okk; rw [e1]; rfl
    rw [eo, Bool.false_and]
    repeat' (first | with_reducible first | refine kI (by kernel_rfl) ?_ | refine kN (by kernel_rfl) ?_ | (first | refine kB1 ?_ ?_ | refine kB2 ?_ ?_) <;> intro hp | (first | refine kD1 ?_ ?_ | refine kD2 ?_ ?_ | refine kS1 ?_ ?_ | refine kS2 ?_ ?_) <;> intro hp <;> try simp only [hp] | simp -implicitDefEqProofs (disch := omega) only [go_sem, Nat.reduceAdd, Nat.reduceSub, reduceCtorEq, Nat.reduceLT, Nat.reduceLeDiff, Nat.reduceEqDiff, Nat.reduceMul, Int.reduceToNat, ↓reduceIte, List.take_of_length_le, if_pos, if_neg, List.getElem?_set_self, List.set_set, cnE, cnV, Tryz.ntmps31, Tryz.results31,  hv, q1])
  | true =>
    rw [e1] at q1
    cases e2 : viewOK b with
    | false =>
      rw [e2] at q2
      have eo : okk a b = false := by unfold okk; rw [e1, e2]; rfl
      rw [eo, Bool.false_and]
      repeat' (first | with_reducible first | refine kI (by kernel_rfl) ?_ | refine kN (by kernel_rfl) ?_ | (first | refine kB1 ?_ ?_ | refine kB2 ?_ ?_) <;> intro hp | (first | refine kD1 ?_ ?_ | refine kD2 ?_ ?_ | refine kS1 ?_ ?_ | refine kS2 ?_ ?_) <;> intro hp <;> try simp only [hp] | simp -implicitDefEqProofs (disch := omega) only [go_sem, Nat.reduceAdd, Nat.reduceSub, reduceCtorEq, Nat.reduceLT, Nat.reduceLeDiff, Nat.reduceEqDiff, Nat.reduceMul, Int.reduceToNat, ↓reduceIte, List.take_of_length_le, if_pos, if_neg, List.getElem?_set_self, List.set_set, cnE, cnV, Tryz.ntmps31, Tryz.results31,  hv, q1, q2])
    | true =>
      rw [e2] at q2
      rw [okk_iff.2 ⟨e1, e2⟩, Bool.true_and]
      have q3 := gOv_eq ⟨vOK e1, vOK e2⟩
      have q4 := ovF_eq (B := offF b) (offF_in e1)
      have q5 := gCells_eq (vOK e2)
      have q6 := both_all (A := offF a) (offF_in e2)
      have q7 : (((bothF (offF a) (offF b)).length : Int) == ((srt (offF b)).length : Int)) = (offF b).all fun x => (offF a).contains x := by
        rw [← q6, Bool.eq_iff_iff, beq_iff_eq, decide_eq_true_eq]; omega
      repeat' (first | with_reducible first | refine kI (by kernel_rfl) ?_ | refine kN (by kernel_rfl) ?_ | (first | refine kB1 ?_ ?_ | refine kB2 ?_ ?_) <;> intro hp | (first | refine kD1 ?_ ?_ | refine kD2 ?_ ?_ | refine kS1 ?_ ?_ | refine kS2 ?_ ?_) <;> intro hp <;> try simp only [hp] | simp -implicitDefEqProofs (disch := omega) only [go_sem, Nat.reduceAdd, Nat.reduceSub, reduceCtorEq, Nat.reduceLT, Nat.reduceLeDiff, Nat.reduceEqDiff, Nat.reduceMul, Int.reduceToNat, ↓reduceIte, List.take_of_length_le, if_pos, if_neg, List.getElem?_set_self, List.set_set, cnE, cnV, Tryz.ntmps31, Tryz.results31,  hv, q1, q2, ho, q3, q4, hc, q5, q7])
theorem all_take {p : Int → Bool} {l : List Int} {k : Nat} (hk : k < l.length) : (l.take (k + 1)).all p = ((l.take k).all p && p (l.getD k 0)) := by
  rw [take_snocI hk, List.all_append]; simp
end Go.Proofs.YtokpibajolhelaaGreat
namespace Go.Proofs.YtokpibajolhelaaGreat
open Go Go.Ev Go.RowKit Go.Ev.Enc Go.Pl

end Go.Proofs.YtokpibajolhelaaGreat
namespace Go.Proofs.YtokpibajolhelaaGreat
open Go Go.Ev Go.RowKit Go.Ev.Enc Go.Pl

def viOK (v : Vi) : Prop := v.sh.length ≤ 4 ∧ v.st.length ≤ 5
end Go.Proofs.YtokpibajolhelaaGreat
namespace Go.Proofs.YtokpibajolhelaaGreat
open Go Go.Ev Go.RowKit Go.Ev.Enc Go.Pl

set_option maxHeartbeats 2000000 in
set_option maxRecDepth 100000 in
theorem spec_sameInts {Sg : FuncId → Option (List AV → Option AV)} (hS : Sound Tryz.prog Sg) : ∀ a r, F2 gEqInts a = some r → CSpec Tryz.prog 121 a r := by
  refine spec2 Tryz.func121 rfl Tryz.pf hS ?_
  intro a b r hr
  obtain ⟨⟨h1, h2⟩, rfl⟩ := gd_some hr
  by_cases hl : a.length = b.length
  · have hl' : (a.length : Int) = (b.length : Int) := by omega
    repeat' (first | with_reducible first | refine kI (by kernel_rfl) ?_ | refine kN (by kernel_rfl) ?_ | (first | refine kB1 ?_ ?_ | refine kB2 ?_ ?_) <;> intro hp | (first | refine kD1 ?_ ?_ | refine kD2 ?_ ?_ | refine kS1 ?_ ?_ | refine kS2 ?_ ?_) <;> intro hp <;> try simp only [hp] | simp -implicitDefEqProofs (disch := omega) only [go_sem, Nat.reduceAdd, Nat.reduceSub, reduceCtorEq, Nat.reduceLT, Nat.reduceLeDiff, Nat.reduceEqDiff, Nat.reduceMul, Int.reduceToNat, ↓reduceIte, List.take_of_length_le, if_pos, if_neg, List.getElem?_set_self, List.set_set, cnE, cnV, Tryz.ntmps121, Tryz.results121,  hl'])
    refine LoopQ.mix (fun t0 L0 nn ss => ∃ (k : Nat) (_ : Unit), (∃ x : Nat → AV, ss = ⟨mixL 0 (.k :: .k :: .k :: .k :: .s :: .v (i64 (k : Nat)) :: .k :: .k :: .k :: .k :: .k :: .s :: .s :: .s :: .s :: .s :: .s :: .s :: .s :: .s :: .s :: .s :: .s :: .s :: .s :: .s :: []) t0 x, L0⟩) ∧ (k ≤ a.length) ∧ (∀ i, i < k → a.getD i 0 = b.getD i 0) ∧ nn = a.length - k) ?_ ?_
    · exact ⟨_, ⟨0, (), mixI rfl, Nat.zero_le _, fun i hi => absurd hi (Nat.not_lt_zero _), rfl⟩⟩
    · rintro I0 hI0 n s ⟨k, _, ⟨x, rfl⟩, g1, g2, rfl⟩
      by_cases hlt : k < a.length
      · have hkb : k < b.length := by omega
        have hlt' : (k : Int) < (b.length : Int) := by omega
        by_cases he : a.getD k 0 = b.getD k 0
        · repeat' (first | with_reducible first | refine kI (by kernel_rfl) ?_ | refine kN (by kernel_rfl) ?_ | (first | refine kB1 ?_ ?_ | refine kB2 ?_ ?_) <;> intro hp | (first | refine kD1 ?_ ?_ | refine kD2 ?_ ?_ | refine kS1 ?_ ?_ | refine kS2 ?_ ?_) <;> intro hp <;> try simp only [hp] | simp -implicitDefEqProofs (disch := omega) only [go_sem, Nat.reduceAdd, Nat.reduceSub, reduceCtorEq, Nat.reduceLT, Nat.reduceLeDiff, Nat.reduceEqDiff, Nat.reduceMul, Int.reduceToNat, ↓reduceIte, List.take_of_length_le, if_pos, if_neg, List.getElem?_set_self, List.set_set, cnE, cnV, Tryz.ntmps121, Tryz.results121,  hlt', getD_ints hlt, getD_ints hkb, he])
          exact ⟨a.length - (k + 1), by omega, hI0 _ _ ⟨k + 1, (), mixI rfl, hlt, fun i hi => if h : i = k then by subst h; exact he else g2 i (by omega), rfl⟩⟩
        · repeat' (first | with_reducible first | refine kI (by kernel_rfl) ?_ | refine kN (by kernel_rfl) ?_ | (first | refine kB1 ?_ ?_ | refine kB2 ?_ ?_) <;> intro hp | (first | refine kD1 ?_ ?_ | refine kD2 ?_ ?_ | refine kS1 ?_ ?_ | refine kS2 ?_ ?_) <;> intro hp <;> try simp only [hp] | simp -implicitDefEqProofs (disch := omega) only [go_sem, Nat.reduceAdd, Nat.reduceSub, reduceCtorEq, Nat.reduceLT, Nat.reduceLeDiff, Nat.reduceEqDiff, Nat.reduceMul, Int.reduceToNat, ↓reduceIte, List.take_of_length_le, if_pos, if_neg, List.getElem?_set_self, List.set_set, cnE, cnV, Tryz.ntmps121, Tryz.results121,  hlt', getD_ints hlt, getD_ints hkb, he])
          rw [decide_eq_false (fun h => he (by rw [h]))]
      · obtain rfl : k = a.length := by omega
        repeat' (first | with_reducible first | refine kI (by kernel_rfl) ?_ | refine kN (by kernel_rfl) ?_ | (first | refine kB1 ?_ ?_ | refine kB2 ?_ ?_) <;> intro hp | (first | refine kD1 ?_ ?_ | refine kD2 ?_ ?_ | refine kS1 ?_ ?_ | refine kS2 ?_ ?_) <;> intro hp <;> try simp only [hp] | simp -implicitDefEqProofs (disch := omega) only [go_sem, Nat.reduceAdd, Nat.reduceSub, reduceCtorEq, Nat.reduceLT, Nat.reduceLeDiff, Nat.reduceEqDiff, Nat.reduceMul, Int.reduceToNat, ↓reduceIte, List.take_of_length_le, if_pos, if_neg, List.getElem?_set_self, List.set_set, cnE, cnV, Tryz.ntmps121, Tryz.results121,  hl'])
        rw [decide_eq_true (ints_ext (by omega) g2)]
  · have hl' : ¬ (a.length : Int) = (b.length : Int) := by omega
    repeat' (first | with_reducible first | refine kI (by kernel_rfl) ?_ | refine kN (by kernel_rfl) ?_ | (first | refine kB1 ?_ ?_ | refine kB2 ?_ ?_) <;> intro hp | (first | refine kD1 ?_ ?_ | refine kD2 ?_ ?_ | refine kS1 ?_ ?_ | refine kS2 ?_ ?_) <;> intro hp <;> try simp only [hp] | simp -implicitDefEqProofs (disch := omega) only [go_sem, Nat.reduceAdd, Nat.reduceSub, reduceCtorEq, Nat.reduceLT, Nat.reduceLeDiff, Nat.reduceEqDiff, Nat.reduceMul, Int.reduceToNat, ↓reduceIte, List.take_of_length_le, if_pos, if_neg, List.getElem?_set_self, List.set_set, cnE, cnV, Tryz.ntmps121, Tryz.results121,  hl'])
    rw [decide_eq_false (fun h => hl (by rw [h]))]
set_option maxHeartbeats 2000000 in
set_option maxRecDepth 100000 in
theorem spec_Equal {Sg : FuncId → Option (List AV → Option AV)} (hS : Sound Tryz.prog Sg) : ∀ a r, F2 gEqInts a = some r → CSpec Tryz.prog 120 a r := by
  refine spec2 Tryz.func120 rfl Tryz.pf hS ?_
  intro a b r hr
  obtain ⟨⟨h1, h2⟩, rfl⟩ := gd_some hr
  by_cases hl : a.length = b.length
  · have hl' : (a.length : Int) = (b.length : Int) := by omega
    repeat' (first | with_reducible first | refine kI (by kernel_rfl) ?_ | refine kN (by kernel_rfl) ?_ | (first | refine kB1 ?_ ?_ | refine kB2 ?_ ?_) <;> intro hp | (first | refine kD1 ?_ ?_ | refine kD2 ?_ ?_ | refine kS1 ?_ ?_ | refine kS2 ?_ ?_) <;> intro hp <;> try simp only [hp] | simp -implicitDefEqProofs (disch := omega) only [go_sem, Nat.reduceAdd, Nat.reduceSub, reduceCtorEq, Nat.reduceLT, Nat.reduceLeDiff, Nat.reduceEqDiff, Nat.reduceMul, Int.reduceToNat, ↓reduceIte, List.take_of_length_le, if_pos, if_neg, List.getElem?_set_self, List.set_set, cnE, cnV, Tryz.ntmps120, Tryz.results120,  hl'])
    refine LoopQ.mix (fun t0 L0 nn ss => ∃ (k : Nat) (_ : Unit), (∃ x : Nat → AV, ss = ⟨mixL 0 (.k :: .k :: .k :: .k :: .s :: .s :: .k :: .k :: .k :: .k :: .k :: .k :: .k :: .v (i64 (k : Nat)) :: .s :: .s :: .s :: .s :: .s :: .s :: .s :: .s :: .s :: .s :: .s :: .s :: []) t0 x, L0⟩) ∧ (k ≤ a.length) ∧ (∀ i, i < k → a.getD i 0 = b.getD i 0) ∧ nn = a.length - k) ?_ ?_
    · exact ⟨_, ⟨0, (), mixI rfl, Nat.zero_le _, fun i hi => absurd hi (Nat.not_lt_zero _), rfl⟩⟩
    · rintro I0 hI0 n s ⟨k, _, ⟨x, rfl⟩, g1, g2, rfl⟩
      by_cases hlt : k < a.length
      · have hkb : k < b.length := by omega
        have hlt' : (k : Int) < (b.length : Int) := by omega
        by_cases he : a.getD k 0 = b.getD k 0
        · repeat' (first | with_reducible first | refine kI (by kernel_rfl) ?_ | refine kN (by kernel_rfl) ?_ | (first | refine kB1 ?_ ?_ | refine kB2 ?_ ?_) <;> intro hp | (first | refine kD1 ?_ ?_ | refine kD2 ?_ ?_ | refine kS1 ?_ ?_ | refine kS2 ?_ ?_) <;> intro hp <;> try simp only [hp] | simp -implicitDefEqProofs (disch := omega) only [go_sem, Nat.reduceAdd, Nat.reduceSub, reduceCtorEq, Nat.reduceLT, Nat.reduceLeDiff, Nat.reduceEqDiff, Nat.reduceMul, Int.reduceToNat, ↓reduceIte, List.take_of_length_le, if_pos, if_neg, List.getElem?_set_self, List.set_set, cnE, cnV, Tryz.ntmps120, Tryz.results120,  hlt', getD_ints hlt, getD_ints hkb, he])
          exact ⟨a.length - (k + 1), by omega, hI0 _ _ ⟨k + 1, (), mixI rfl, hlt, fun i hi => if h : i = k then by subst h; exact he else g2 i (by omega), rfl⟩⟩
        · repeat' (first | with_reducible first | refine kI (by kernel_rfl) ?_ | refine kN (by kernel_rfl) ?_ | (first | refine kB1 ?_ ?_ | refine kB2 ?_ ?_) <;> intro hp | (first | refine kD1 ?_ ?_ | refine kD2 ?_ ?_ | refine kS1 ?_ ?_ | refine kS2 ?_ ?_) <;> intro hp <;> try simp only [hp] | simp -implicitDefEqProofs (disch := omega) only [go_sem, Nat.reduceAdd, Nat.reduceSub, reduceCtorEq, Nat.reduceLT, Nat.reduceLeDiff, Nat.reduceEqDiff, Nat.reduceMul, Int.reduceToNat, ↓reduceIte, List.take_of_length_le, if_pos, if_neg, List.getElem?_set_self, List.set_set, cnE, cnV, Tryz.ntmps120, Tryz.results120,  hlt', getD_ints hlt, getD_ints hkb, he])
          rw [decide_eq_false (fun h => he (by rw [h]))]
      · obtain rfl : k = a.length := by omega
        repeat' (first | with_reducible first | refine kI (by kernel_rfl) ?_ | refine kN (by kernel_rfl) ?_ | (first | refine kB1 ?_ ?_ | refine kB2 ?_ ?_) <;> intro hp | (first | refine kD1 ?_ ?_ | refine kD2 ?_ ?_ | refine kS1 ?_ ?_ | refine kS2 ?_ ?_) <;> intro hp <;> try simp only [hp] | simp -implicitDefEqProofs (disch := omega) only [go_sem, Nat.reduceAdd, Nat.reduceSub, reduceCtorEq, Nat.reduceLT, Nat.reduceLeDiff, Nat.reduceEqDiff, Nat.reduceMul, Int.reduceToNat, ↓reduceIte, List.take_of_length_le, if_pos, if_neg, List.getElem?_set_self, List.set_set, cnE, cnV, Tryz.ntmps120, Tryz.results120,  hl'])
        rw [decide_eq_true (ints_ext (by omega) g2)]
  · have hl' : ¬ (a.length : Int) = (b.length : Int) := by omega
    repeat' (first | with_reducible first | refine kI (by kernel_rfl) ?_ | refine kN (by kernel_rfl) ?_ | (first | refine kB1 ?_ ?_ | refine kB2 ?_ ?_) <;> intro hp | (first | refine kD1 ?_ ?_ | refine kD2 ?_ ?_ | refine kS1 ?_ ?_ | refine kS2 ?_ ?_) <;> intro hp <;> try simp only [hp] | simp -implicitDefEqProofs (disch := omega) only [go_sem, Nat.reduceAdd, Nat.reduceSub, reduceCtorEq, Nat.reduceLT, Nat.reduceLeDiff, Nat.reduceEqDiff, Nat.reduceMul, Int.reduceToNat, ↓reduceIte, List.take_of_length_le, if_pos, if_neg, List.getElem?_set_self, List.set_set, cnE, cnV, Tryz.ntmps120, Tryz.results120,  hl'])
    rw [decide_eq_false (fun h => hl (by rw [h]))]
end Go.Proofs.YtokpibajolhelaaGreat
namespace Go.Proofs.YtokpibajolhelaaGreat
open Go Go.Ev Go.RowKit Go.Ev.Enc Go.Pl

def viol (A B : List Int) (back : Bool) (i k : Nat) : Prop := A.getD i 0 = B.getD k 0 ∧ if back = true then k < i else i < k
instance (A B : List Int) (back : Bool) (i k : Nat) : Decidable (viol A B back i k) := by unfold viol; infer_instance
end Go.Proofs.YtokpibajolhelaaGreat
namespace Go.Proofs.YtokpibajolhelaaGreat
open Go Go.Ev Go.RowKit Go.Ev.Enc Go.Pl

def vsB (l : List Vi) : Prop := l.length ≤ 1000 ∧ ∀ v ∈ l, viB v
instance (l : List Vi) : Decidable (vsB l) := by unfold vsB; infer_instance
end Go.Proofs.YtokpibajolhelaaGreat
namespace Go.Proofs.YtokpibajolhelaaGreat
open Go Go.Ev Go.RowKit Go.Ev.Enc Go.Pl

theorem enc_rgs (t : Nat) (l : List Rg) : (enc t l : AV) = .ds t (l.map fun x => .agg [.int .i64 x.a, .int .i64 x.z, .int .i64 x.s]) := rfl
theorem dec_rgs (l : List Rg) : (dec (.ds 0 (l.map fun x => .agg [.int .i64 x.a, .int .i64 x.z, .int .i64 x.s])) : Option (List Rg)) = some l := (ok _ _).2 rfl
theorem ee_rgs (t t' : Nat) (L : List Blk) (l : List Rg) : expE (expC t L) (.ds t' (l.map fun x => .agg [.int .i64 x.a, .int .i64 x.z, .int .i64 x.s])) = .ds (min t' t) (l.map fun x => .agg [.int .i64 x.a, .int .i64 x.z, .int .i64 x.s]) := by
  simp [expE, expC, stepC, Function.comp_def]
theorem gcV_rgs (n : Nat) (L : List Blk) (t : Nat) (l : List Rg) : gcV n L (.ds t (l.map fun x => .agg [.int .i64 x.a, .int .i64 x.z, .int .i64 x.s])) = .ds t (l.map fun x => .agg [.int .i64 x.a, .int .i64 x.z, .int .i64 x.s]) := by
  simp [gcV, expE, gcC, gcStep, Function.comp_def]
theorem expS_rgs (t : Nat) (L : List Blk) (e ver off len : Nat) (q : List Rg) : expS t L ver off len (some ⟨e, q.map fun x => .agg [.int .i64 x.a, .int .i64 x.z, .int .i64 x.s]⟩) = if q.length = ver ∧ off + len ≤ ver then .ds t (((q.drop off).take len).map fun x => .agg [.int .i64 x.a, .int .i64 x.z, .int .i64 x.s]) else .any := by
  simp [expS, expE, stepC, Function.comp_def]
theorem gcB_rgs (n : Nat) (L : List Blk) (e : Nat) (l : List Rg) : gcB n L ⟨e, l.map fun x => .agg [.int .i64 x.a, .int .i64 x.z, .int .i64 x.s]⟩ = ⟨e, l.map fun x => .agg [.int .i64 x.a, .int .i64 x.z, .int .i64 x.s]⟩ := by
  simp [gcB, expE, gcC, gcStep, Function.comp_def]
attribute [go_sem] gcB_rgs expS_rgs gcV_rgs enc_rgs dec_rgs ee_rgs
end Go.Proofs.YtokpibajolhelaaGreat
