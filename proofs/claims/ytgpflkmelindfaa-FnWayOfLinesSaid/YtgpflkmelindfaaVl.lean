/- Contracts of functions that the laws of this seat call. -/
import Derived.Test.YtgpflkmelindfaaVe
import Derived.Test.YtgpflkmelindfaaFA
set_option linter.all false
namespace Go.Proofs.Ytgpflkmelindfaa
open Go Go.Ev Go.RowKit Go.Ev.Enc Go.Pl

/-! ### what both have -/
def bothF (a b : List Int) : List Int := (upV 60).filter fun x => a.contains x && b.contains x
def bothT (a b : List Int) (k : Nat) : List Int := (upV k).filter fun x => a.contains x && b.contains x
theorem bothT_y {a b : List Int} {k : Nat} (h1 : (k : Int) ∈ a) (h2 : (k : Int) ∈ b) : bothT a b k ++ [(k : Int)] = bothT a b (k + 1) := by
  unfold bothT
  rw [← upV_snoc, List.filter_append]
  simp [h1, h2]
theorem bothT_n {a b : List Int} {k : Nat} (h : ¬ ((k : Int) ∈ a ∧ (k : Int) ∈ b)) : bothT a b (k + 1) = bothT a b k := by
  unfold bothT
  rw [← upV_snoc, List.filter_append]
  simp only [List.filter_cons, List.filter_nil, List.append_right_eq_self, ite_eq_right_iff, Bool.and_eq_true, List.contains_iff_mem]
  exact fun h' => absurd h' h
def gBoth (a b : List Int) : Option (List Int) := gd (a.length < 4294967296 ∧ b.length < 4294967296) (bothF a b)
theorem gBoth_eq {a b : List Int} (h : a.length < 4294967296 ∧ b.length < 4294967296) : gBoth a b = some (bothF a b) := gd_eq h
set_option maxHeartbeats 4000000 in
set_option maxRecDepth 100000 in
theorem spec_both {Sg : FuncId → Option (List AV → Option AV)} (hS : Sound Try.prog Sg) (hp : Sg 117 = some (F2 gPlaceIn)) : ∀ a r, F2 gBoth a = some r → CSpec Try.prog 126 a r := by
  refine F2_spec ?_
  intro a b r hr
  obtain ⟨⟨h1, h2⟩, rfl⟩ := gd_some hr
  refine CSpec.intro Try.func126 rfl (own _) (vc3_sound Try.pf hS hS _ _ _ ?_)
  repeat' (first | with_reducible first | refine kI (by kernel_rfl) ?_ | refine kN (by kernel_rfl) ?_ | (first | refine kB1 ?_ ?_ | refine kB2 ?_ ?_) <;> intro hp | (first | refine kD1 ?_ ?_ | refine kD2 ?_ ?_ | refine kS1 ?_ ?_ | refine kS2 ?_ ?_) <;> intro hp <;> try simp only [hp] | simp -implicitDefEqProofs (disch := omega) only [go_sem, Nat.reduceAdd, Nat.reduceSub, reduceCtorEq, Nat.reduceLT, Nat.reduceLeDiff, Nat.reduceEqDiff, Nat.reduceMul, Int.reduceToNat, ↓reduceIte, List.take_of_length_le, if_pos, if_neg, List.getElem?_set_self, List.set_set, cnE, cnV, Try.ntmps126, Try.results126])
  refine LoopQ.mix (fun t0 L0 nn ss => ∃ (k : Nat) (q : List Int) (c : Nat) (_ : Unit), (∃ x : Nat → AV, ss = ⟨mixL 0 (.k :: .k :: .k :: .k :: .k :: .v (.sl 0 c 0 c c) :: .v (i64 (k : Nat)) :: .k :: .s :: .s :: .s :: .s :: .s :: .s :: .s :: .s :: .s :: .s :: .s :: .s :: .s :: .s :: .s :: .s :: .s :: .s :: .k :: []) t0 x, [⟨1, q.map fun n => .int .i64 n⟩]⟩) ∧ (k ≤ 60) ∧ (q.length = c ∧ c ≤ k) ∧ (q = bothT a b k) ∧ nn = 60 - k) ?_ ?_
  · exact ⟨_, ⟨0, [], 0, (), mixI rfl, Nat.zero_le _, ⟨rfl, Nat.zero_le _⟩, rfl, rfl⟩⟩
  · rintro I0 hI0 nn s ⟨k, q, c, _, ⟨x, rfl⟩, g1, ⟨g2, g2'⟩, g3, rfl⟩
    have q1 := gPlaceIn_eq (l := a) h1 (k : Int)
    have q2 := gPlaceIn_eq (l := b) h2 (k : Int)
    have p1 := plc_nonneg (l := a) (n := (k : Int))
    have p2 := plc_nonneg (l := b) (n := (k : Int))
    by_cases hk : k < 60
    · have hki : (k : Int) < 60 := by omega
      by_cases ha : (k : Int) ∈ a
      · by_cases hb : (k : Int) ∈ b
        · have hs := bothT_y ha hb
          rw [← g3] at hs
          repeat' (first | with_reducible first | refine kI (by kernel_rfl) ?_ | refine kN (by kernel_rfl) ?_ | (first | refine kB1 ?_ ?_ | refine kB2 ?_ ?_) <;> intro hp | (first | refine kD1 ?_ ?_ | refine kD2 ?_ ?_ | refine kS1 ?_ ?_ | refine kS2 ?_ ?_) <;> intro hp <;> try simp only [hp] | simp -implicitDefEqProofs (disch := omega) only [go_sem, Nat.reduceAdd, Nat.reduceSub, reduceCtorEq, Nat.reduceLT, Nat.reduceLeDiff, Nat.reduceEqDiff, Nat.reduceMul, Int.reduceToNat, ↓reduceIte, List.take_of_length_le, if_pos, if_neg, List.getElem?_set_self, List.set_set, cnE, cnV, Try.ntmps126, Try.results126,  hki, hp, q1, q2, p1, p2, ha, hb])
          exact ⟨60 - (k + 1), by omega, hI0 _ _ ⟨k + 1, q ++ [(k : Int)], c + 1, (), mixI rfl, by omega, ⟨by simp [g2], by omega⟩, hs, rfl⟩⟩
        · have hs := bothT_n (a := a) (b := b) (k := k) (fun h => hb h.2)
          rw [← g3] at hs
          repeat' (first | with_reducible first | refine kI (by kernel_rfl) ?_ | refine kN (by kernel_rfl) ?_ | (first | refine kB1 ?_ ?_ | refine kB2 ?_ ?_) <;> intro hp | (first | refine kD1 ?_ ?_ | refine kD2 ?_ ?_ | refine kS1 ?_ ?_ | refine kS2 ?_ ?_) <;> intro hp <;> try simp only [hp] | simp -implicitDefEqProofs (disch := omega) only [go_sem, Nat.reduceAdd, Nat.reduceSub, reduceCtorEq, Nat.reduceLT, Nat.reduceLeDiff, Nat.reduceEqDiff, Nat.reduceMul, Int.reduceToNat, ↓reduceIte, List.take_of_length_le, if_pos, if_neg, List.getElem?_set_self, List.set_set, cnE, cnV, Try.ntmps126, Try.results126,  hki, hp, q1, q2, p1, p2, ha, hb])
          exact ⟨60 - (k + 1), by omega, hI0 _ _ ⟨k + 1, q, c, (), mixI rfl, by omega, ⟨g2, by omega⟩, hs.symm, rfl⟩⟩
      · have hs := bothT_n (a := a) (b := b) (k := k) (fun h => ha h.1)
        rw [← g3] at hs
        repeat' (first | with_reducible first | refine kI (by kernel_rfl) ?_ | refine kN (by kernel_rfl) ?_ | (first | refine kB1 ?_ ?_ | refine kB2 ?_ ?_) <;> intro hp | (first | refine kD1 ?_ ?_ | refine kD2 ?_ ?_ | refine kS1 ?_ ?_ | refine kS2 ?_ ?_) <;> intro hp <;> try simp only [hp] | simp -implicitDefEqProofs (disch := omega) only [go_sem, Nat.reduceAdd, Nat.reduceSub, reduceCtorEq, Nat.reduceLT, Nat.reduceLeDiff, Nat.reduceEqDiff, Nat.reduceMul, Int.reduceToNat, ↓reduceIte, List.take_of_length_le, if_pos, if_neg, List.getElem?_set_self, List.set_set, cnE, cnV, Try.ntmps126, Try.results126,  hki, hp, q1, q2, p1, p2, ha])
        exact ⟨60 - (k + 1), by omega, hI0 _ _ ⟨k + 1, q, c, (), mixI rfl, by omega, ⟨g2, by omega⟩, hs.symm, rfl⟩⟩
    · obtain rfl : k = 60 := by omega
      repeat' (first | with_reducible first | refine kI (by kernel_rfl) ?_ | refine kN (by kernel_rfl) ?_ | (first | refine kB1 ?_ ?_ | refine kB2 ?_ ?_) <;> intro hp | (first | refine kD1 ?_ ?_ | refine kD2 ?_ ?_ | refine kS1 ?_ ?_ | refine kS2 ?_ ?_) <;> intro hp <;> try simp only [hp] | simp -implicitDefEqProofs (disch := omega) only [go_sem, Nat.reduceAdd, Nat.reduceSub, reduceCtorEq, Nat.reduceLT, Nat.reduceLeDiff, Nat.reduceEqDiff, Nat.reduceMul, Int.reduceToNat, ↓reduceIte, List.take_of_length_le, if_pos, if_neg, List.getElem?_set_self, List.set_set, cnE, cnV, Try.ntmps126, Try.results126])
      rw [g3]; rfl
theorem mem_both {a b : List Int} {x : Int} : x ∈ bothF a b ↔ (0 ≤ x ∧ x < 60) ∧ x ∈ a ∧ x ∈ b := by
  unfold bothF
  rw [List.mem_filter, upV_mem]
  simp only [Bool.and_eq_true, List.contains_iff_mem]
  exact Iff.rfl
theorem both_asc (a b : List Int) : (bothF a b).Pairwise (· < ·) := (upV_asc 60).sublist List.filter_sublist
theorem both_len (a b : List Int) : (bothF a b).length ≤ 60 := by
  have := List.length_filter_le (fun x => a.contains x && b.contains x) (upV 60)
  rw [upV_len] at this
  exact this
def inC (l : List Int) : Prop := ∀ x ∈ l, 0 ≤ x ∧ x < 60
theorem srt_both {a : List Int} (h : inC a) : srt a = bothF a a :=
  srt_eq (both_asc a a) fun x => by
    rw [mem_both]
    exact ⟨fun h => h.2.1, fun hx => ⟨h x hx, hx, hx⟩⟩
theorem offF_in {v : Vi} (h : viewOK v = true) : inC (offF v) := (viewOK_iff.1 h).2.2.2.2
/-! ### cells -/
def gCells (v : Vi) : Option (List Int) := gd (shapeOK v.sh = true ∧ v.st.length = v.sh.length) (srt (offF v))
theorem gCells_eq {v : Vi} (h : shapeOK v.sh = true ∧ v.st.length = v.sh.length) : gCells v = some (srt (offF v)) := gd_eq h
def gUsed (v : Vi) : Option (List Int) := gd (shapeOK v.sh = true ∧ v.st.length = v.sh.length) (bothF (offF v) (offF v))
theorem gUsed_eq {v : Vi} (h : shapeOK v.sh = true ∧ v.st.length = v.sh.length) : gUsed v = some (bothF (offF v) (offF v)) := gd_eq h
theorem offF_60 {v : Vi} (h : shapeOK v.sh = true) : (offF v).length ≤ 60 := by
  have := shape_facts h
  rw [offF_len]; omega
theorem can_offsetsOf : CanCall Try.prog 53 := ⟨_, Try.func53, rfl, rfl⟩
def OffI : Prop := ∀ v : Vi, shapeOK v.sh = true → v.st.length = v.sh.length → OSpec Try.prog 53 [.agg [i64 v.b, ints 0 v.sh, ints 0 v.st]] (fun n => .sl n (offF v).length 0 (offF v).length (offF v).length) (fun _ => [⟨1, (offF v).map fun n => .int .i64 n⟩])
set_option maxHeartbeats 4000000 in
set_option maxRecDepth 100000 in
theorem spec_used {Sg : FuncId → Option (List AV → Option AV)} (hS : Sound Try.prog Sg) (ho : Sg 62 = some (F1 gOffsets)) (hb : Sg 126 = some (F2 gBoth)) : ∀ a r, F1 gUsed a = some r → CSpec Try.prog 86 a r := by
  refine F1_spec ?_
  intro v r hr
  obtain ⟨⟨h1, h2⟩, rfl⟩ := gd_some hr
  refine CSpec.intro Try.func86 rfl (own _) (vc3_sound Try.pf hS hS _ _ _ ?_)
  have h6 := offF_60 h1
  have q1 := gOffsets_eq (v := v) ⟨h1, h2⟩
  have q2 := gBoth_eq (a := offF v) (b := offF v) ⟨by omega, by omega⟩
  repeat' (first | with_reducible first | refine kI (by kernel_rfl) ?_ | refine kN (by kernel_rfl) ?_ | (first | refine kB1 ?_ ?_ | refine kB2 ?_ ?_) <;> intro hp | (first | refine kD1 ?_ ?_ | refine kD2 ?_ ?_ | refine kS1 ?_ ?_ | refine kS2 ?_ ?_) <;> intro hp <;> try simp only [hp] | simp -implicitDefEqProofs (disch := omega) only [go_sem, Nat.reduceAdd, Nat.reduceSub, reduceCtorEq, Nat.reduceLT, Nat.reduceLeDiff, Nat.reduceEqDiff, Nat.reduceMul, Int.reduceToNat, ↓reduceIte, List.take_of_length_le, if_pos, if_neg, List.getElem?_set_self, List.set_set, cnE, cnV, Try.ntmps86, Try.results86,  ho, q1, hb, q2])
set_option maxHeartbeats 4000000 in
set_option maxRecDepth 100000 in
theorem o_cellsOf {Sg : FuncId → Option (List AV → Option AV)} (hS : Sound Try.prog Sg) (n1 : Sg 53 = none) (hs : Sg 77 = none) (hc : Sg 105 = none) (v : Vi) (h : shapeOK v.sh = true ∧ v.st.length = v.sh.length) (hof : OffI) : OSpec Try.prog 54 [.agg [i64 v.b, ints 0 v.sh, ints 0 v.st]] (fun n => .sl n (offF v).length 0 (srt (offF v)).length (offF v).length) (fun _ => [⟨1, (srt (offF v) ++ List.replicate ((offF v).length - (srt (offF v)).length) 0).map fun n => .int .i64 n⟩]) := by
  refine OSpec.intro Try.func54 rfl (vc3_sound Try.pf hS hS _ _ _ ?_)
  have h6 := offF_60 h.1
  repeat' (first | with_reducible first | refine kI (by kernel_rfl) ?_ | (first | refine kB1 ?_ ?_ | refine kB2 ?_ ?_) <;> intro hp | (first | refine kD1 ?_ ?_ | refine kD2 ?_ ?_ | refine kS1 ?_ ?_ | refine kS2 ?_ ?_) <;> intro hp <;> try simp only [hp] | simp -implicitDefEqProofs (disch := omega) only [go_sem, Nat.reduceAdd, Nat.reduceSub, reduceCtorEq, Nat.reduceLT, Nat.reduceLeDiff, Nat.reduceEqDiff, Nat.reduceMul, Int.reduceToNat, ↓reduceIte, List.take_of_length_le, if_pos, if_neg, List.getElem?_set_self, List.set_set, cnE, cnV, Try.ntmps54, Try.results54,  n1, opQ_none])
  refine InlK_intro rfl rfl can_offsetsOf ((hof v h.1 h.2).call (by simp only [go_sem, ints]) ?_)
  generalize offF v = A at *
  repeat' (first | with_reducible first | refine kI (by kernel_rfl) ?_ | (first | refine kB1 ?_ ?_ | refine kB2 ?_ ?_) <;> intro hp | (first | refine kD1 ?_ ?_ | refine kD2 ?_ ?_ | refine kS1 ?_ ?_ | refine kS2 ?_ ?_) <;> intro hp <;> try simp only [hp] | simp -implicitDefEqProofs (disch := omega) only [go_sem, Nat.reduceAdd, Nat.reduceSub, reduceCtorEq, Nat.reduceLT, Nat.reduceLeDiff, Nat.reduceEqDiff, Nat.reduceMul, Int.reduceToNat, ↓reduceIte, List.take_of_length_le, if_pos, if_neg, List.getElem?_set_self, List.set_set, cnE, cnV, Try.ntmps54, Try.results54,  hs, opQ_none])
  refine InlK_intro rfl rfl can_sort ((isp_sort (q := A) rfl rfl (by omega)).mono ?_)
  rintro r L' ⟨rfl, rfl⟩
  repeat' (first | with_reducible first | refine kI (by kernel_rfl) ?_ | (first | refine kB1 ?_ ?_ | refine kB2 ?_ ?_) <;> intro hp | (first | refine kD1 ?_ ?_ | refine kD2 ?_ ?_ | refine kS1 ?_ ?_ | refine kS2 ?_ ?_) <;> intro hp <;> try simp only [hp] | simp -implicitDefEqProofs (disch := omega) only [go_sem, Nat.reduceAdd, Nat.reduceSub, reduceCtorEq, Nat.reduceLT, Nat.reduceLeDiff, Nat.reduceEqDiff, Nat.reduceMul, Int.reduceToNat, ↓reduceIte, List.take_of_length_le, if_pos, if_neg, List.getElem?_set_self, List.set_set, cnE, cnV, Try.ntmps54, Try.results54,  hc, opQ_none])
  refine InlK_intro rfl rfl can_compact ((isp_compact (q := A.mergeSort fun x y => decide (x ≤ y)) rfl (by rw [List.length_mergeSort]) (by omega)).mono ?_)
  rintro r L' ⟨rfl, rfl⟩
  repeat' (first | with_reducible first | refine kI (by kernel_rfl) ?_ | (first | refine kB1 ?_ ?_ | refine kB2 ?_ ?_) <;> intro hp | (first | refine kD1 ?_ ?_ | refine kD2 ?_ ?_ | refine kS1 ?_ ?_ | refine kS2 ?_ ?_) <;> intro hp <;> try simp only [hp] | simp -implicitDefEqProofs (disch := omega) only [go_sem, Nat.reduceAdd, Nat.reduceSub, reduceCtorEq, Nat.reduceLT, Nat.reduceLeDiff, Nat.reduceEqDiff, Nat.reduceMul, Int.reduceToNat, ↓reduceIte, List.take_of_length_le, if_pos, if_neg, List.getElem?_set_self, List.set_set, cnE, cnV, Try.ntmps54, Try.results54])
  rw [List.length_mergeSort]
  exact ⟨[1], by simp, by simp, fun n => by simp [renV, expE, renC, gOf, List.idxOf?_cons, srt], fun n => by simp [renB, expE, renC, Function.comp_def, srt]⟩
theorem exp_ownT (q z : List Int) (n m : Nat) (h : q.length = n) (hm : (q ++ z).length = m) : exp 1 [⟨1, (q ++ z).map fun n => .int .i64 n⟩] (.sl 0 m 0 n m) = ints 1 q := by
  subst h hm
  simp [exp, expE, expC, stepC, ints, Function.comp_def]
theorem srt_60 (A : List Int) : (srt A).length ≤ A.length := srt_len A
set_option maxHeartbeats 4000000 in
set_option maxRecDepth 100000 in
theorem spec_cellsOf {Sg : FuncId → Option (List AV → Option AV)} (hS : Sound Try.prog Sg) (hc : Sg 97 = some (F1 gCountOf)) (hu : Sg 98 = some (F2 gUnrank)) (ho : Sg 100 = some (F2 gOffset)) (hs : Sg 77 = none) (hp : Sg 105 = none) : ∀ a r, F1 gCells a = some r → CSpec Try.prog 54 a r := by
  refine F1_spec ?_
  intro v r hr
  obtain ⟨⟨h1, h2⟩, rfl⟩ := gd_some hr
  have hof : OffI := fun v h1 h2 => o_offsetsI hS hc hu ho v h1 h2
  refine (o_cellsOf (hS.hide 53) (if_pos rfl) ((if_neg (by decide)).trans hs) ((if_neg (by decide)).trans hp) v ⟨h1, h2⟩ hof).cspec ?_ (own (srt (offF v))) (exp_ownT _ _ _ _ rfl (by have := srt_60 (offF v); rw [List.length_append, List.length_replicate]; omega))
  show [_] = [_]
  rw [map_vi0]
def gCellsT (v : Vi) : Option (List Int) := gd (viB v) (if viewOK v = true then srt (offF v) else [])
theorem gCellsT_eq {v : Vi} (h : viB v) : gCellsT v = some (if viewOK v = true then srt (offF v) else []) := gd_eq h
set_option maxHeartbeats 4000000 in
set_option maxRecDepth 100000 in
theorem spec_CellsOfI {Sg : FuncId → Option (List AV → Option AV)} (hS : Sound Try.prog Sg) (hv : Sg 51 = some (F1 gValidV)) (hc : Sg 54 = some (F1 gCells)) : ∀ a r, F1 gCellsT a = some r → CSpec Try.prog 15 a r := by
  refine F1_spec ?_
  intro v r hr
  obtain ⟨h, rfl⟩ := gd_some hr
  refine CSpec.intro Try.func15 rfl (own _) (vc3_sound Try.pf hS hS _ _ _ ?_)
  have q1 := gValidV_eq (v := v) h
  cases e1 : viewOK v with
  | false =>
    rw [e1] at q1
    rw [if_neg (by simp)]
    repeat' (first | with_reducible first | refine kI (by kernel_rfl) ?_ | refine kN (by kernel_rfl) ?_ | (first | refine kB1 ?_ ?_ | refine kB2 ?_ ?_) <;> intro hp | (first | refine kD1 ?_ ?_ | refine kD2 ?_ ?_ | refine kS1 ?_ ?_ | refine kS2 ?_ ?_) <;> intro hp <;> try simp only [hp] | simp -implicitDefEqProofs (disch := omega) only [go_sem, Nat.reduceAdd, Nat.reduceSub, reduceCtorEq, Nat.reduceLT, Nat.reduceLeDiff, Nat.reduceEqDiff, Nat.reduceMul, Int.reduceToNat, ↓reduceIte, List.take_of_length_le, if_pos, if_neg, List.getElem?_set_self, List.set_set, cnE, cnV, Try.ntmps15, Try.results15,  hv, q1])
  | true =>
    rw [e1] at q1
    rw [if_pos rfl]
    obtain ⟨k1, k2, _⟩ := viewOK_iff.1 e1
    have q2 := gCells_eq (v := v) ⟨k1, k2⟩
    have q3 := srt_both (offF_in e1)
    repeat' (first | with_reducible first | refine kI (by kernel_rfl) ?_ | refine kN (by kernel_rfl) ?_ | (first | refine kB1 ?_ ?_ | refine kB2 ?_ ?_) <;> intro hp | (first | refine kD1 ?_ ?_ | refine kD2 ?_ ?_ | refine kS1 ?_ ?_ | refine kS2 ?_ ?_) <;> intro hp <;> try simp only [hp] | simp -implicitDefEqProofs (disch := omega) only [go_sem, Nat.reduceAdd, Nat.reduceSub, reduceCtorEq, Nat.reduceLT, Nat.reduceLeDiff, Nat.reduceEqDiff, Nat.reduceMul, Int.reduceToNat, ↓reduceIte, List.take_of_length_le, if_pos, if_neg, List.getElem?_set_self, List.set_set, cnE, cnV, Try.ntmps15, Try.results15,  hv, q1, hc, q2, q3])
def gOffT (v : Vi) : Option (List Int) := gd (viB v) (if viewOK v = true then offF v else [])
theorem gOffT_eq {v : Vi} (h : viB v) : gOffT v = some (if viewOK v = true then offF v else []) := gd_eq h
def gCountT (l : List Int) : Option Int := gd (l.length < 4294967296) (if shapeOK l = true then prodW l else -1)
theorem gCountT_eq {l : List Int} (h : l.length < 4294967296) : gCountT l = some (if shapeOK l = true then prodW l else -1) := gd_eq h
set_option maxHeartbeats 4000000 in
set_option maxRecDepth 100000 in
theorem spec_CountOfI {Sg : FuncId → Option (List AV → Option AV)} (hS : Sound Try.prog Sg) (hs : Sg 96 = some (F1 gIsShape)) (hc : Sg 97 = some (F1 gCountOf)) : ∀ a r, F1 gCountT a = some r → CSpec Try.prog 43 a r := by
  refine F1_spec ?_
  intro l r hr
  obtain ⟨h, rfl⟩ := gd_some hr
  refine CSpec.intro Try.func43 rfl (own _) (vc3_sound Try.pf hS hS _ _ _ ?_)
  have q1 := gIsShape_eq (l := l) h
  have q2 := gCountOf_eq (l := l) h
  cases e1 : shapeOK l with
  | false =>
    rw [e1] at q1
    rw [if_neg (by simp)]
    repeat' (first | with_reducible first | refine kI (by kernel_rfl) ?_ | refine kN (by kernel_rfl) ?_ | (first | refine kB1 ?_ ?_ | refine kB2 ?_ ?_) <;> intro hp | (first | refine kD1 ?_ ?_ | refine kD2 ?_ ?_ | refine kS1 ?_ ?_ | refine kS2 ?_ ?_) <;> intro hp <;> try simp only [hp] | simp -implicitDefEqProofs (disch := omega) only [go_sem, Nat.reduceAdd, Nat.reduceSub, reduceCtorEq, Nat.reduceLT, Nat.reduceLeDiff, Nat.reduceEqDiff, Nat.reduceMul, Int.reduceToNat, ↓reduceIte, List.take_of_length_le, if_pos, if_neg, List.getElem?_set_self, List.set_set, cnE, cnV, Try.ntmps43, Try.results43,  hs, q1])
  | true =>
    rw [e1] at q1
    rw [if_pos rfl]
    repeat' (first | with_reducible first | refine kI (by kernel_rfl) ?_ | refine kN (by kernel_rfl) ?_ | (first | refine kB1 ?_ ?_ | refine kB2 ?_ ?_) <;> intro hp | (first | refine kD1 ?_ ?_ | refine kD2 ?_ ?_ | refine kS1 ?_ ?_ | refine kS2 ?_ ?_) <;> intro hp <;> try simp only [hp] | simp -implicitDefEqProofs (disch := omega) only [go_sem, Nat.reduceAdd, Nat.reduceSub, reduceCtorEq, Nat.reduceLT, Nat.reduceLeDiff, Nat.reduceEqDiff, Nat.reduceMul, Int.reduceToNat, ↓reduceIte, List.take_of_length_le, if_pos, if_neg, List.getElem?_set_self, List.set_set, cnE, cnV, Try.ntmps43, Try.results43,  hs, q1, hc, q2])
/-! ### all different -/
theorem sub_len : ∀ {B A : List Int}, B.Nodup → (∀ x ∈ B, x ∈ A) → B.length ≤ A.length
  | [], A, _, _ => Nat.zero_le _
  | b :: B, A, hn, hs => by
    obtain ⟨h1, h2⟩ := List.nodup_cons.1 hn
    have hb : b ∈ A := hs b (by simp)
    have := sub_len (B := B) (A := A.erase b) h2 fun x hx => by
      have hxb : x ≠ b := fun h => h1 (h ▸ hx)
      exact (List.mem_erase_of_ne hxb).2 (hs x (by simp [hx]))
    rw [List.length_erase_of_mem hb] at this
    have := List.length_pos_of_mem hb
    simp only [List.length_cons]; omega
theorem diffF_nodup {A : List Int} : diffF A = true ↔ A.Nodup := by
  unfold diffF
  rw [decide_eq_true_eq, List.nodup_iff_pairwise_ne, List.pairwise_iff_getElem]
  constructor
  · intro h i j hi hj hij he
    refine h j hj ?_
    rw [List.getD_eq_getElem?_getD, List.getElem?_eq_getElem hj, Option.getD_some, ← he]
    exact List.mem_take_iff_getElem.2 ⟨i, by omega, rfl⟩
  · intro h k hk hm
    rw [List.getD_eq_getElem?_getD, List.getElem?_eq_getElem hk, Option.getD_some] at hm
    obtain ⟨i, hi, he⟩ := List.mem_take_iff_getElem.1 hm
    exact h i k (by omega) hk (by omega) he
theorem srt_nodup (A : List Int) : (srt A).Nodup := (srt_asc A).imp fun h => by omega
theorem diff_srt (A : List Int) : diffF A = decide ((srt A).length = A.length) := by
  rw [Bool.eq_iff_iff, decide_eq_true_eq]
  constructor
  · intro h
    have := sub_len (diffF_nodup.1 h) fun x hx => (srt_mem A x).2 hx
    have := srt_len A
    omega
  · intro h
    unfold diffF
    rw [decide_eq_true_eq]
    intro k hk hm
    have hs := sub_len (B := srt A) (A := A.eraseIdx k) (srt_nodup A) fun x hx => by
      have hx := (srt_mem A x).1 hx
      obtain ⟨i, hi, rfl⟩ := List.mem_iff_getElem.1 hx
      rw [List.mem_eraseIdx_iff_getElem]
      by_cases hik : i = k
      · subst hik
        rw [List.getD_eq_getElem?_getD, List.getElem?_eq_getElem hk, Option.getD_some] at hm
        obtain ⟨j, hj, he⟩ := List.mem_take_iff_getElem.1 hm
        exact ⟨j, by omega, by omega, he⟩
      · exact ⟨i, hi, hik, rfl⟩
    rw [List.length_eraseIdx_of_lt hk] at hs
    omega
def gOneI (v : Vi) : Option Bool := gd (shapeOK v.sh = true ∧ v.st.length = v.sh.length) (diffF (offF v))
theorem gOneI_eq {v : Vi} (h : shapeOK v.sh = true ∧ v.st.length = v.sh.length) : gOneI v = some (diffF (offF v)) := gd_eq h
set_option maxHeartbeats 4000000 in
set_option maxRecDepth 100000 in
theorem spec_isOneToOne {Sg : FuncId → Option (List AV → Option AV)} (hS : Sound Try.prog Sg) (hc : Sg 54 = some (F1 gCells)) (hn : Sg 97 = some (F1 gCountOf)) : ∀ a r, F1 gOneI a = some r → CSpec Try.prog 68 a r := by
  refine F1_spec ?_
  intro v r hr
  obtain ⟨⟨h1, h2⟩, rfl⟩ := gd_some hr
  refine CSpec.intro Try.func68 rfl (own _) (vc3_sound Try.pf hS hS _ _ _ ?_)
  obtain ⟨s1, s2, s3, s4, s5⟩ := shape_facts h1
  have q1 := gCells_eq (v := v) ⟨h1, h2⟩
  have q2 := gCountOf_eq (l := v.sh) (by omega)
  have hl := offF_len v
  have hd : (((srt (offF v)).length : Int) == prodW v.sh) = diffF (offF v) := by
    rw [diff_srt, Bool.eq_iff_iff, beq_iff_eq, decide_eq_true_eq]
    omega
  repeat' (first | with_reducible first | refine kI (by kernel_rfl) ?_ | refine kN (by kernel_rfl) ?_ | (first | refine kB1 ?_ ?_ | refine kB2 ?_ ?_) <;> intro hp | (first | refine kD1 ?_ ?_ | refine kD2 ?_ ?_ | refine kS1 ?_ ?_ | refine kS2 ?_ ?_) <;> intro hp <;> try simp only [hp] | simp -implicitDefEqProofs (disch := omega) only [go_sem, Nat.reduceAdd, Nat.reduceSub, reduceCtorEq, Nat.reduceLT, Nat.reduceLeDiff, Nat.reduceEqDiff, Nat.reduceMul, Int.reduceToNat, ↓reduceIte, List.take_of_length_le, if_pos, if_neg, List.getElem?_set_self, List.set_set, cnE, cnV, Try.ntmps68, Try.results68,  hc, q1, hn, q2, hd])
def gOneT (v : Vi) : Option Bool := gd (viB v) (viewOK v && diffF (offF v))
theorem gOneT_eq {v : Vi} (h : viB v) : gOneT v = some (viewOK v && diffF (offF v)) := gd_eq h
set_option maxHeartbeats 4000000 in
set_option maxRecDepth 100000 in
theorem spec_IsOneToOneI {Sg : FuncId → Option (List AV → Option AV)} (hS : Sound Try.prog Sg) (hv : Sg 51 = some (F1 gValidV)) (ho : Sg 68 = some (F1 gOneI)) : ∀ a r, F1 gOneT a = some r → CSpec Try.prog 30 a r := by
  refine F1_spec ?_
  intro v r hr
  obtain ⟨h, rfl⟩ := gd_some hr
  refine CSpec.intro Try.func30 rfl (own _) (vc3_sound Try.pf hS hS _ _ _ ?_)
  have q1 := gValidV_eq (v := v) h
  cases e1 : viewOK v with
  | false =>
    rw [e1] at q1
    repeat' (first | with_reducible first | refine kI (by kernel_rfl) ?_ | refine kN (by kernel_rfl) ?_ | (first | refine kB1 ?_ ?_ | refine kB2 ?_ ?_) <;> intro hp | (first | refine kD1 ?_ ?_ | refine kD2 ?_ ?_ | refine kS1 ?_ ?_ | refine kS2 ?_ ?_) <;> intro hp <;> try simp only [hp] | simp -implicitDefEqProofs (disch := omega) only [go_sem, Nat.reduceAdd, Nat.reduceSub, reduceCtorEq, Nat.reduceLT, Nat.reduceLeDiff, Nat.reduceEqDiff, Nat.reduceMul, Int.reduceToNat, ↓reduceIte, List.take_of_length_le, if_pos, if_neg, List.getElem?_set_self, List.set_set, cnE, cnV, Try.ntmps30, Try.results30,  hv, q1])
    try rfl
  | true =>
    rw [e1] at q1
    obtain ⟨k1, k2, _⟩ := viewOK_iff.1 e1
    have q2 := gOneI_eq (v := v) ⟨k1, k2⟩
    have h6 := offF_60 k1
    have q3 := gDifferent_eq (l := offF v) (by omega)
    repeat' (first | with_reducible first | refine kI (by kernel_rfl) ?_ | refine kN (by kernel_rfl) ?_ | (first | refine kB1 ?_ ?_ | refine kB2 ?_ ?_) <;> intro hp | (first | refine kD1 ?_ ?_ | refine kD2 ?_ ?_ | refine kS1 ?_ ?_ | refine kS2 ?_ ?_) <;> intro hp <;> try simp only [hp] | simp -implicitDefEqProofs (disch := omega) only [go_sem, Nat.reduceAdd, Nat.reduceSub, reduceCtorEq, Nat.reduceLT, Nat.reduceLeDiff, Nat.reduceEqDiff, Nat.reduceMul, Int.reduceToNat, ↓reduceIte, List.take_of_length_le, if_pos, if_neg, List.getElem?_set_self, List.set_set, cnE, cnV, Try.ntmps30, Try.results30,  hv, q1, ho, q2, q3])
    try rfl
end Go.Proofs.Ytgpflkmelindfaa
