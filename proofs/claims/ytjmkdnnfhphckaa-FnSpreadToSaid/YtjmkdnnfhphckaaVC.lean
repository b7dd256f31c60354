/- Contracts of functions on views and memories that the laws of this seat call. -/
import Derived.Test.YtjmkdnnfhphckaaVB
set_option linter.all false
namespace Go.Proofs.Ytjmkdnnfhphckaa
open Go Go.Ev Go.RowKit Go.Ev.Enc Go.Pl

/-! ### gaps -/
def gapP (c : List Int) (y : Int) : Bool := decide (c.getD 0 0 ≤ y) && !c.contains y
def gapT (c : List Int) (n : Nat) : List Int := (upV n).filter (gapP c)
def gapF (c : List Int) : List Int := if c.length = 0 then [] else gapT c ((c.getD (c.length - 1) 0).toNat + 1)
theorem gapT_y {c : List Int} {k : Nat} (h : gapP c k = true) : gapT c k ++ [(k : Int)] = gapT c (k + 1) := by
  unfold gapT
  rw [← upV_snoc, List.filter_append]
  simp [h]
theorem gapT_n {c : List Int} {k : Nat} (h : gapP c k = false) : gapT c (k + 1) = gapT c k := by
  unfold gapT
  rw [← upV_snoc, List.filter_append]
  simp [h]
theorem gapT_len (c : List Int) (n : Nat) : (gapT c n).length ≤ n := by
  have := List.length_filter_le (gapP c) (upV n)
  rw [upV_len] at this
  exact this
theorem asc_at {c : List Int} (h : c.Pairwise (· < ·)) {i j : Nat} (hij : i < j) (hj : j < c.length) : c.getD i 0 < c.getD j 0 := by
  have := List.pairwise_iff_getElem.1 h i j (by omega) hj hij
  rw [List.getD_eq_getElem?_getD, List.getElem?_eq_getElem (by omega), Option.getD_some, List.getD_eq_getElem?_getD, List.getElem?_eq_getElem hj, Option.getD_some]
  exact this
theorem asc_lt {c : List Int} (h : c.Pairwise (· < ·)) {i j : Nat} (hi : i < c.length) (hlt : c.getD i 0 < c.getD j 0) (hj : j < c.length) : i < j := by
  rcases Nat.lt_trichotomy i j with e | e | e
  · exact e
  · subst e; omega
  · have := asc_at h e hi; omega
theorem betw_n {c : List Int} (h : c.Pairwise (· < ·)) {k : Nat} (hk : k + 1 < c.length) {y : Int} (h1 : c.getD k 0 < y) (h2 : y < c.getD (k + 1) 0) : gapP c y = true := by
  have hn : ¬ y ∈ c := fun hm => by
    obtain ⟨i, hi, e⟩ := mem_dropI (m := 0).1 (by rwa [List.drop_zero])
    obtain ⟨hi, e⟩ := e
    have a1 := asc_lt h (i := k) (j := i) (by omega) (by omega) hi
    have a2 := asc_lt h (i := i) (j := k + 1) hi (by omega) hk
    omega
  have h0 : c.getD 0 0 ≤ c.getD k 0 := by
    by_cases h0 : k = 0
    · subst h0; exact Int.le_refl _
    · have := asc_at h (i := 0) (j := k) (by omega) (by omega); omega
  unfold gapP
  rw [decide_eq_true (by omega), Bool.true_and, Bool.not_eq_true', ← Bool.not_eq_true, List.contains_iff_mem]
  exact hn
theorem gapP_mem {c : List Int} {y : Int} (h : y ∈ c) : gapP c y = false := by
  unfold gapP
  rw [List.contains_iff_mem.2 h]; simp
theorem gapT_0 {c : List Int} (hin : inC c) (h0 : 0 < c.length) : gapT c ((c.getD 0 0).toNat + 1) = [] := by
  have hc := hin _ (gmem h0)
  rw [gapT_n (gapP_mem (by rw [show (((c.getD 0 0).toNat : Nat) : Int) = c.getD 0 0 from by omega]; exact gmem h0))]
  unfold gapT
  rw [List.filter_eq_nil_iff]
  intro y hy
  have := upV_mem.1 hy
  unfold gapP
  simp only [Bool.and_eq_true, decide_eq_true_eq]
  omega
def gGap (v : Vi) : Option (List Int) := gd (viB v) (if viewOK v = true then gapF (srt (offF v)) else [])
theorem gGap_eq {v : Vi} (h : viB v) : gGap v = some (if viewOK v = true then gapF (srt (offF v)) else []) := gd_eq h
theorem srt_in60 {A : List Int} (h : inC A) : inC (srt A) := fun x hx => h x ((srt_mem A x).1 hx)
end Go.Proofs.Ytjmkdnnfhphckaa
namespace Go.Proofs.Ytjmkdnnfhphckaa
open Go Go.Ev Go.RowKit Go.Ev.Enc Go.Pl

theorem mem_getI {c : List Int} {x : Int} (h : x ∈ c) : ∃ i, i < c.length ∧ c.getD i 0 = x := by
  obtain ⟨i, hi, h1, h2⟩ := mem_dropI (m := 0).1 (by rwa [List.drop_zero])
  exact ⟨i, h1, h2⟩
theorem asc_lo {c : List Int} (h : c.Pairwise (· < ·)) {x : Int} (hx : x ∈ c) : c.getD 0 0 ≤ x := by
  obtain ⟨i, hi, rfl⟩ := mem_getI hx
  by_cases h0 : i = 0
  · subst h0; exact Int.le_refl _
  · have := asc_at h (i := 0) (j := i) (by omega) hi; omega
theorem asc_hi {c : List Int} (h : c.Pairwise (· < ·)) {x : Int} (hx : x ∈ c) : x ≤ c.getD (c.length - 1) 0 := by
  obtain ⟨i, hi, rfl⟩ := mem_getI hx
  by_cases h0 : i = c.length - 1
  · subst h0; exact Int.le_refl _
  · have := asc_at h (i := i) (j := c.length - 1) (by omega) (by omega); omega
theorem mn_srt {A : List Int} (h : 0 < A.length) : mnT A A.length = (srt A).getD 0 0 := by
  obtain ⟨h1, h2⟩ := mnT_b (l := A) A.length h (Nat.le_refl _)
  have a1 := asc_lo (srt_asc A) ((srt_mem A _).2 h1)
  have hl : 0 < (srt A).length := List.length_pos_of_mem ((srt_mem A _).2 h1)
  obtain ⟨i, hi, e⟩ := mem_getI ((srt_mem A _).1 (gmem hl))
  have := h2 i hi
  omega
theorem mx_srt {A : List Int} (h : 0 < A.length) : mxT A A.length = (srt A).getD ((srt A).length - 1) 0 := by
  obtain ⟨h1, h2⟩ := mxT_b (l := A) A.length h (Nat.le_refl _)
  have a1 := asc_hi (srt_asc A) ((srt_mem A _).2 h1)
  have hl : 0 < (srt A).length := List.length_pos_of_mem ((srt_mem A _).2 h1)
  obtain ⟨i, hi, e⟩ := mem_getI ((srt_mem A _).1 (gmem (show (srt A).length - 1 < (srt A).length by omega)))
  have := h2 i hi
  omega
theorem mem_gap {c : List Int} (hin : inC c) (h0 : 0 < c.length) {y : Int} : y ∈ gapF c ↔ (c.getD 0 0 ≤ y ∧ y ≤ c.getD (c.length - 1) 0) ∧ ¬ y ∈ c := by
  have c0 := hin _ (gmem h0)
  have c1 := hin _ (gmem (show c.length - 1 < c.length by omega))
  unfold gapF gapT gapP
  rw [if_neg (by omega), List.mem_filter, upV_mem]
  simp only [Bool.and_eq_true, decide_eq_true_eq, Bool.not_eq_true']
  rw [← Bool.not_eq_true, List.contains_iff_mem]
  constructor
  · rintro ⟨h1, h2, h3⟩; exact ⟨⟨h2, by omega⟩, h3⟩
  · rintro ⟨⟨h1, h2⟩, h3⟩; exact ⟨by omega, h1, h3⟩
theorem gap_has {c : List Int} (hin : inC c) (h0 : 0 < c.length) {y : Int} (h1 : c.getD 0 0 ≤ y) (h2 : y ≤ c.getD (c.length - 1) 0) : (gapF c).contains y = !c.contains y := by
  rw [Bool.eq_iff_iff, List.contains_iff_mem, mem_gap hin h0, Bool.not_eq_true', ← Bool.not_eq_true, List.contains_iff_mem]
  exact ⟨fun h => h.2, fun h => ⟨⟨h1, h2⟩, h⟩⟩
theorem gap_asc (c : List Int) : (gapF c).Pairwise (· < ·) := by
  unfold gapF
  split
  · exact .nil
  · exact (upV_asc _).sublist List.filter_sublist
theorem upV_from (a : Nat) : ∀ n, ((upV n).filter fun y => decide ((a : Int) ≤ y)).length = n - a
  | 0 => by simp [upV]
  | n + 1 => by
    have := upV_from a n
    rw [← upV_snoc, List.filter_append, List.length_append, this]
    by_cases h : a ≤ n
    · simp [h]; omega
    · simp [h]; omega
theorem filter_parts (p : Int → Bool) : ∀ l : List Int, (l.filter p).length + (l.filter fun x => !p x).length = l.length
  | [] => rfl
  | x :: l => by
    have := filter_parts p l
    cases h : p x <;> simp [h] <;> omega
theorem gap_len {c : List Int} (hs : c.Pairwise (· < ·)) (hin : inC c) (h0 : 0 < c.length) : ((gapF c).length : Int) + c.length = c.getD (c.length - 1) 0 - c.getD 0 0 + 1 := by
  have c0 := hin _ (gmem h0)
  have c1 := hin _ (gmem (show c.length - 1 < c.length by omega))
  have hlo := fun x hx => asc_lo hs (x := x) hx
  have hhi := fun x hx => asc_hi hs (x := x) hx
  have c2 := hlo _ (gmem (show c.length - 1 < c.length by omega))
  have hu := upV_from (c.getD 0 0).toNat ((c.getD (c.length - 1) 0).toNat + 1)
  have hp := filter_parts (fun y => c.contains y) ((upV ((c.getD (c.length - 1) 0).toNat + 1)).filter fun y => decide ((((c.getD 0 0).toNat : Nat) : Int) ≤ y))
  rw [hu, List.filter_filter, List.filter_filter] at hp
  have e1 : (upV ((c.getD (c.length - 1) 0).toNat + 1)).filter (fun a => c.contains a && decide ((((c.getD 0 0).toNat : Nat) : Int) ≤ a)) = c := by
    refine asc_ext ((upV_asc _).sublist List.filter_sublist) hs fun x => ?_
    rw [List.mem_filter, upV_mem]
    simp only [Bool.and_eq_true, List.contains_iff_mem, decide_eq_true_eq]
    constructor
    · exact fun h => h.2.1
    · intro h
      have a1 := hlo x h
      have a2 := hhi x h
      exact ⟨by omega, h, by omega⟩
  have e2 : (upV ((c.getD (c.length - 1) 0).toNat + 1)).filter (fun a => !c.contains a && decide ((((c.getD 0 0).toNat : Nat) : Int) ≤ a)) = gapF c := by
    refine asc_ext ((upV_asc _).sublist List.filter_sublist) (gap_asc c) fun x => ?_
    rw [List.mem_filter, upV_mem, mem_gap hin h0]
    simp only [Bool.and_eq_true, Bool.not_eq_true', decide_eq_true_eq]
    rw [← Bool.not_eq_true, List.contains_iff_mem]
    constructor
    · rintro ⟨h1, h2, h3⟩; exact ⟨⟨by omega, by omega⟩, h2⟩
    · rintro ⟨⟨h1, h2⟩, h3⟩; exact ⟨by omega, h3, by omega⟩
  rw [e1, e2] at hp
  omega
theorem gap_60 {c : List Int} (hin : inC c) (hs : c.Pairwise (· < ·)) : (gapF c).length ≤ 60 := by
  by_cases h0 : 0 < c.length
  · have := gap_len hs hin h0
    have c0 := hin _ (gmem h0)
    have c1 := hin _ (gmem (show c.length - 1 < c.length by omega))
    omega
  · unfold gapF
    rw [if_pos (by omega)]; simp
theorem bd_none {v : Vi} (h : prodW v.sh = 0) : bdF v = (-1, -1) := by unfold bdF; rw [if_neg (fun h' => h'.2 h)]
end Go.Proofs.Ytjmkdnnfhphckaa
namespace Go.Proofs.Ytjmkdnnfhphckaa
open Go Go.Ev Go.RowKit Go.Ev.Enc Go.Pl

/-! ### two views -/
def ovF (A B : List Int) : List Int := (srt A).filter fun x => (srt B).contains x
theorem ovF_eq {A B : List Int} (h : inC A) : ovF A B = bothF A B := by
  refine asc_ext ((srt_asc A).sublist List.filter_sublist) (both_asc A B) fun x => ?_
  unfold ovF
  rw [List.mem_filter, List.contains_iff_mem, srt_mem, srt_mem, mem_both]
  exact ⟨fun h' => ⟨h x h'.1, h'⟩, fun h' => h'.2⟩
theorem flt_take {p : Int → Bool} {l : List Int} {k : Nat} (hk : k < l.length) : (l.take (k + 1)).filter p = (l.take k).filter p ++ (if p (l.getD k 0) = true then [l.getD k 0] else []) := by
  rw [take_snocI hk, List.filter_append]
  congr 1
  simp only [List.filter_cons, List.filter_nil]
def gOv (a b : Vi) : Option (List Int) := gd ((shapeOK a.sh = true ∧ a.st.length = a.sh.length) ∧ (shapeOK b.sh = true ∧ b.st.length = b.sh.length)) (ovF (offF a) (offF b))
theorem gOv_eq {a b : Vi} (h : (shapeOK a.sh = true ∧ a.st.length = a.sh.length) ∧ (shapeOK b.sh = true ∧ b.st.length = b.sh.length)) : gOv a b = some (ovF (offF a) (offF b)) := gd_eq h
set_option maxHeartbeats 4000000 in
set_option maxRecDepth 100000 in
theorem spec_overlapOf {Sg : FuncId → Option (List AV → Option AV)} (hS : Sound Try.prog Sg) (hc : Sg 32 = some (F1 gCells)) (hi : Sg 43 = some (F2 gContains)) : ∀ a r, F2 gOv a = some r → CSpec Try.prog 31 a r := by
  refine F2_spec ?_
  intro a b r hr
  obtain ⟨⟨ha, hb⟩, rfl⟩ := gd_some hr
  refine CSpec.intro Try.func31 rfl (own _) (vc3_sound Try.pf hS hS _ _ _ ?_)
  have a6 := offF_60 ha.1
  have b6 := offF_60 hb.1
  have q1 := gCells_eq (v := a) ha
  have q2 := gCells_eq (v := b) hb
  have la := srt_len (offF a)
  have lb := srt_len (offF b)
  unfold ovF
  repeat' (first | with_reducible first | refine kI (by kernel_rfl) ?_ | refine kN (by kernel_rfl) ?_ | (first | refine kB1 ?_ ?_ | refine kB2 ?_ ?_) <;> intro hp | (first | refine kD1 ?_ ?_ | refine kD2 ?_ ?_ | refine kS1 ?_ ?_ | refine kS2 ?_ ?_) <;> intro hp <;> try simp only [hp] | simp -implicitDefEqProofs (disch := omega) only [go_sem, Nat.reduceAdd, Nat.reduceSub, reduceCtorEq, Nat.reduceLT, Nat.reduceLeDiff, Nat.reduceEqDiff, Nat.reduceMul, Int.reduceToNat, ↓reduceIte, List.take_of_length_le, if_pos, if_neg, List.getElem?_set_self, List.set_set, cnE, cnV, Try.ntmps31, Try.results31,  hc, q1, q2])
  generalize srt (offF a) = A at *
  generalize srt (offF b) = B at *
  generalize offF a = A0 at *
  generalize offF b = B0 at *
  refine LoopQ.mix (fun t0 L0 nn ss => ∃ (k : Nat) (q : List Int) (m : Nat) (_ : Unit), (∃ x : Nat → AV, ss = ⟨mixL 0 (.k :: .k :: .k :: .k :: .k :: .k :: .v (.sl 2 m 0 m m) :: .k :: .s :: .k :: .k :: .k :: .k :: .k :: .k :: .v (i64 (k : Nat)) :: .s :: .s :: .s :: .s :: .s :: .s :: .s :: .s :: .s :: .s :: .s :: .k :: []) t0 x, [viB0 a, viB0 b, ⟨1, q.map fun n => .int .i64 n⟩]⟩) ∧ (k ≤ A.length) ∧ (q.length = m ∧ m ≤ k) ∧ (q = (A.take k).filter fun x => B.contains x) ∧ nn = A.length - k) ?_ ?_
  · exact ⟨_, ⟨0, [], 0, (), mixI rfl, Nat.zero_le _, ⟨rfl, Nat.zero_le _⟩, rfl, rfl⟩⟩
  · rintro I0 hI0 nn s ⟨k, q, m, _, ⟨x, rfl⟩, g1, ⟨g2, g2'⟩, g3, rfl⟩
    by_cases hk : k < A.length
    · have hki : (k : Int) < (A.length : Int) := by omega
      have p1 := gContains_eq (l := B) (by omega) (A.getD k 0)
      have hf := flt_take (p := fun x => B.contains x) hk
      rw [← g3] at hf
      cases eb : B.contains (A.getD k 0) with
      | true =>
        simp only [eb, if_true] at hf
        rw [eb] at p1
        repeat' (first | with_reducible first | refine kI (by kernel_rfl) ?_ | refine kN (by kernel_rfl) ?_ | (first | refine kB1 ?_ ?_ | refine kB2 ?_ ?_) <;> intro hp | (first | refine kD1 ?_ ?_ | refine kD2 ?_ ?_ | refine kS1 ?_ ?_ | refine kS2 ?_ ?_) <;> intro hp <;> try simp only [hp] | simp -implicitDefEqProofs (disch := omega) only [go_sem, Nat.reduceAdd, Nat.reduceSub, reduceCtorEq, Nat.reduceLT, Nat.reduceLeDiff, Nat.reduceEqDiff, Nat.reduceMul, Int.reduceToNat, ↓reduceIte, List.take_of_length_le, if_pos, if_neg, List.getElem?_set_self, List.set_set, cnE, cnV, Try.ntmps31, Try.results31,  hki, hi, p1])
        exact ⟨A.length - (k + 1), by omega, hI0 _ _ ⟨k + 1, q ++ [A.getD k 0], m + 1, (), mixI rfl, hk, ⟨by simp [g2], by omega⟩, hf.symm, rfl⟩⟩
      | false =>
        simp only [eb, Bool.false_eq_true, if_false, List.append_nil] at hf
        rw [eb] at p1
        repeat' (first | with_reducible first | refine kI (by kernel_rfl) ?_ | refine kN (by kernel_rfl) ?_ | (first | refine kB1 ?_ ?_ | refine kB2 ?_ ?_) <;> intro hp | (first | refine kD1 ?_ ?_ | refine kD2 ?_ ?_ | refine kS1 ?_ ?_ | refine kS2 ?_ ?_) <;> intro hp <;> try simp only [hp] | simp -implicitDefEqProofs (disch := omega) only [go_sem, Nat.reduceAdd, Nat.reduceSub, reduceCtorEq, Nat.reduceLT, Nat.reduceLeDiff, Nat.reduceEqDiff, Nat.reduceMul, Int.reduceToNat, ↓reduceIte, List.take_of_length_le, if_pos, if_neg, List.getElem?_set_self, List.set_set, cnE, cnV, Try.ntmps31, Try.results31,  hki, hi, p1])
        exact ⟨A.length - (k + 1), by omega, hI0 _ _ ⟨k + 1, q, m, (), mixI rfl, hk, ⟨g2, by omega⟩, hf.symm, rfl⟩⟩
    · obtain rfl : k = A.length := by omega
      rw [List.take_length] at g3
      repeat' (first | with_reducible first | refine kI (by kernel_rfl) ?_ | refine kN (by kernel_rfl) ?_ | (first | refine kB1 ?_ ?_ | refine kB2 ?_ ?_) <;> intro hp | (first | refine kD1 ?_ ?_ | refine kD2 ?_ ?_ | refine kS1 ?_ ?_ | refine kS2 ?_ ?_) <;> intro hp <;> try simp only [hp] | simp -implicitDefEqProofs (disch := omega) only [go_sem, Nat.reduceAdd, Nat.reduceSub, reduceCtorEq, Nat.reduceLT, Nat.reduceLeDiff, Nat.reduceEqDiff, Nat.reduceMul, Int.reduceToNat, ↓reduceIte, List.take_of_length_le, if_pos, if_neg, List.getElem?_set_self, List.set_set, cnE, cnV, Try.ntmps31, Try.results31])
      rw [g3]
def viB2 (a b : Vi) : Prop := viB a ∧ viB b
instance (a b : Vi) : Decidable (viB2 a b) := by unfold viB2; infer_instance
def okk (a b : Vi) : Bool := viewOK a && viewOK b
theorem okk_iff {a b : Vi} : okk a b = true ↔ viewOK a = true ∧ viewOK b = true := by unfold okk; rw [Bool.and_eq_true]
theorem vOK {v : Vi} (h : viewOK v = true) : shapeOK v.sh = true ∧ v.st.length = v.sh.length := ⟨(viewOK_iff.1 h).1, (viewOK_iff.1 h).2.1⟩
def gOvT (a b : Vi) : Option (List Int) := gd (viB2 a b) (if okk a b = true then bothF (offF a) (offF b) else [])
theorem gOvT_eq {a b : Vi} (h : viB2 a b) : gOvT a b = some (if okk a b = true then bothF (offF a) (offF b) else []) := gd_eq h
def gDoOv (a b : Vi) : Option Bool := gd (viB2 a b) (okk a b && decide (0 < (bothF (offF a) (offF b)).length))
theorem gDoOv_eq {a b : Vi} (h : viB2 a b) : gDoOv a b = some (okk a b && decide (0 < (bothF (offF a) (offF b)).length)) := gd_eq h
theorem bd_le (v : Vi) : (bdF v).1 ≤ (bdF v).2 := by
  unfold bdF
  split
  · rename_i h
    have hp := offF_pos h.1 h.2
    have h1 := (mnT_b (l := offF v) _ hp (Nat.le_refl _)).2 0 hp
    have h2 := (mxT_b (l := offF v) _ hp (Nat.le_refl _)).2 0 hp
    show mnT _ _ ≤ mxT _ _
    omega
  · exact Int.le_refl _
def mayF (a b : Vi) : Bool := decide (0 ≤ (bdF a).1) && (decide (0 ≤ (bdF b).1) && (decide ((bdF a).1 ≤ (bdF b).2) && decide ((bdF b).1 ≤ (bdF a).2)))
def gMay (a b : Vi) : Option Bool := gd (viB2 a b) (mayF a b)
theorem gMay_eq {a b : Vi} (h : viB2 a b) : gMay a b = some (mayF a b) := gd_eq h
end Go.Proofs.Ytjmkdnnfhphckaa
namespace Go.Proofs.Ytjmkdnnfhphckaa
open Go Go.Ev Go.RowKit Go.Ev.Enc Go.Pl

/-- two numbers and a mark -/
structure Wit where
  x : Int
  y : Int
  ok : Bool
  deriving DecidableEq
instance : Enc Wit where
  enc t w := .tup [.int .i64 w.x, .int .i64 w.y, .bool w.ok]
  dec | .tup [z, x, y] => (dec z).bind fun n => (dec x).bind fun a => (dec y).map fun b => ⟨n, a, b⟩
      | _ => none
  ok x a := by
    constructor
    · intro h
      split at h
      · simp only [Option.bind_eq_some_iff, Option.map_eq_some_iff] at h
        obtain ⟨n, hn, p, hp, q, hq, rfl⟩ := h
        rw [(ok _ _).1 hn, (ok _ _).1 hp, (ok _ _).1 hq]; rfl
      · simp at h
    · rintro rfl
      show ((dec (enc 0 a.x)).bind fun n => (dec (enc 0 a.y)).bind fun p => (dec (enc 0 a.ok)).map fun q => (⟨n, p, q⟩ : Wit)) = some a
      rw [(ok _ a.x).2 rfl, (ok _ a.y).2 rfl, (ok _ a.ok).2 rfl]; rfl
  own a := .tup _ (by
    intro x hx
    simp only [List.mem_cons, List.not_mem_nil, or_false] at hx
    rcases hx with rfl | rfl | rfl
    · exact own a.x
    · exact own a.y
    · exact own a.ok)
theorem enc_wit (t : Nat) (w : Wit) : (enc t w : AV) = .tup [.int .i64 w.x, .int .i64 w.y, .bool w.ok] := rfl
attribute [go_sem] enc_wit
/-! ### covers -/
theorem both_all {A B : List Int} (hB : inC B) : decide ((bothF A B).length = (srt B).length) = B.all fun x => A.contains x := by
  have e : bothF A B = (srt B).filter fun x => A.contains x := by
    refine asc_ext (both_asc A B) ((srt_asc B).sublist List.filter_sublist) fun x => ?_
    rw [List.mem_filter, List.contains_iff_mem, srt_mem, mem_both]
    exact ⟨fun h => ⟨h.2.2, h.2.1⟩, fun h => ⟨hB x h.1, h.2, h.1⟩⟩
  rw [e, Bool.eq_iff_iff, decide_eq_true_eq, List.length_filter_eq_length_iff, List.all_eq_true]
  exact ⟨fun h x hx => h x ((srt_mem B x).2 hx), fun h x hx => h x ((srt_mem B x).1 hx)⟩
def gCov (a b : Vi) : Option Bool := gd (viB2 a b) (okk a b && (offF b).all fun x => (offF a).contains x)
theorem gCov_eq {a b : Vi} (h : viB2 a b) : gCov a b = some (okk a b && (offF b).all fun x => (offF a).contains x) := gd_eq h
set_option maxHeartbeats 4000000 in
set_option maxRecDepth 100000 in
theorem spec_CoversViewI {Sg : FuncId → Option (List AV → Option AV)} (hS : Sound Try.prog Sg) (hv : Sg 20 = some (F1 gValidV)) (ho : Sg 31 = some (F2 gOv)) (hc : Sg 32 = some (F1 gCells)) : ∀ a r, F2 gCov a = some r → CSpec Try.prog 12 a r := by
  refine F2_spec ?_
  intro a b r hr
  obtain ⟨⟨ha, hb⟩, rfl⟩ := gd_some hr
  refine CSpec.intro Try.func12 rfl (own _) (vc3_sound Try.pf hS hS _ _ _ ?_)
  have q1 := gValidV_eq ha
  have q2 := gValidV_eq hb
  cases e1 : viewOK a with
  | false =>
    rw [e1] at q1
    have eo : okk a b = false := by unfold okk; rw [e1]; rfl
    rw [eo, Bool.false_and]
    repeat' (first | with_reducible first | refine kI (by kernel_rfl) ?_ | refine kN (by kernel_rfl) ?_ | (first | refine kB1 ?_ ?_ | refine kB2 ?_ ?_) <;> intro hp | (first | refine kD1 ?_ ?_ | refine kD2 ?_ ?_ | refine kS1 ?_ ?_ | refine kS2 ?_ ?_) <;> intro hp <;> try simp only [hp] | simp -implicitDefEqProofs (disch := omega) only [go_sem, Nat.reduceAdd, Nat.reduceSub, reduceCtorEq, Nat.reduceLT, Nat.reduceLeDiff, Nat.reduceEqDiff, Nat.reduceMul, Int.reduceToNat, ↓reduceIte, List.take_of_length_le, if_pos, if_neg, List.getElem?_set_self, List.set_set, cnE, cnV, Try.ntmps12, Try.results12,  hv, q1])
  | true =>
    rw [e1] at q1
    cases e2 : viewOK b with
    | false =>
      rw [e2] at q2
      have eo : okk a b = false := by unfold okk; rw [e1, e2]; rfl
      rw [eo, Bool.false_and]
      repeat' (first | with_reducible first | refine kI (by kernel_rfl) ?_ | refine kN (by kernel_rfl) ?_ | (first | refine kB1 ?_ ?_ | refine kB2 ?_ ?_) <;> intro hp | (first | refine kD1 ?_ ?_ | refine kD2 ?_ ?_ | refine kS1 ?_ ?_ | refine kS2 ?_ ?_) <;> intro hp <;> try simp only [hp] | simp -implicitDefEqProofs (disch := omega) only [go_sem, Nat.reduceAdd, Nat.reduceSub, reduceCtorEq, Nat.reduceLT, Nat.reduceLeDiff, Nat.reduceEqDiff, Nat.reduceMul, Int.reduceToNat, ↓reduceIte, List.take_of_length_le, if_pos, if_neg, List.getElem?_set_self, List.set_set, cnE, cnV, Try.ntmps12, Try.results12,  hv, q1, q2])
    | true =>
      rw [e2] at q2
      rw [okk_iff.2 ⟨e1, e2⟩, Bool.true_and]
      have q3 := gOv_eq ⟨vOK e1, vOK e2⟩
      have q4 := ovF_eq (B := offF b) (offF_in e1)
      have q5 := gCells_eq (vOK e2)
      have q6 := both_all (A := offF a) (offF_in e2)
      have q7 : (((bothF (offF a) (offF b)).length : Int) == ((srt (offF b)).length : Int)) = (offF b).all fun x => (offF a).contains x := by
        rw [← q6, Bool.eq_iff_iff, beq_iff_eq, decide_eq_true_eq]; omega
      repeat' (first | with_reducible first | refine kI (by kernel_rfl) ?_ | refine kN (by kernel_rfl) ?_ | (first | refine kB1 ?_ ?_ | refine kB2 ?_ ?_) <;> intro hp | (first | refine kD1 ?_ ?_ | refine kD2 ?_ ?_ | refine kS1 ?_ ?_ | refine kS2 ?_ ?_) <;> intro hp <;> try simp only [hp] | simp -implicitDefEqProofs (disch := omega) only [go_sem, Nat.reduceAdd, Nat.reduceSub, reduceCtorEq, Nat.reduceLT, Nat.reduceLeDiff, Nat.reduceEqDiff, Nat.reduceMul, Int.reduceToNat, ↓reduceIte, List.take_of_length_le, if_pos, if_neg, List.getElem?_set_self, List.set_set, cnE, cnV, Try.ntmps12, Try.results12,  hv, q1, q2, ho, q3, q4, hc, q5, q7])
theorem all_take {p : Int → Bool} {l : List Int} {k : Nat} (hk : k < l.length) : (l.take (k + 1)).all p = ((l.take k).all p && p (l.getD k 0)) := by
  rw [take_snocI hk, List.all_append]; simp
/-! ### witnesses -/
def witF (a b : Vi) : Wit := if okk a b = true ∧ 0 < (bothF (offF a) (offF b)).length then ⟨plc (offF a) ((bothF (offF a) (offF b)).getD 0 0), plc (offF b) ((bothF (offF a) (offF b)).getD 0 0), true⟩ else ⟨-1, -1, false⟩
def gWit (a b : Vi) : Option Wit := gd (viB2 a b) (witF a b)
theorem gWit_eq {a b : Vi} (h : viB2 a b) : gWit a b = some (witF a b) := gd_eq h
theorem witF_n {a b : Vi} (h : okk a b = false) : witF a b = ⟨-1, -1, false⟩ := by unfold witF; rw [h]; rfl
end Go.Proofs.Ytjmkdnnfhphckaa
namespace Go.Proofs.Ytjmkdnnfhphckaa
open Go Go.Ev Go.RowKit Go.Ev.Enc Go.Pl

def DrTwo (f : FuncId) : Prop := ∀ (bs : List UInt8), bs.length ≤ 1048576 → ∀ L : List Blk, ISpec Try.prog f [bytesA 0 bs] L fun r L' => ∃ a b : Vi, ((a.sh.length ≤ 4 ∧ a.st.length ≤ 5) ∧ (b.sh.length ≤ 4 ∧ b.st.length ≤ 5)) ∧ r = .tup [viD a, viD b] ∧ L' = L
theorem both_comm (A B : List Int) : bothF A B = bothF B A := by
  unfold bothF
  congr 1
  funext x
  exact Bool.and_comm _ _
theorem okk_comm (a b : Vi) : okk a b = okk b a := Bool.and_comm _ _
theorem both_has {A B : List Int} (h : inC A) {x : Int} (hx : x ∈ A) : (bothF A B).contains x = B.contains x := by
  rw [Bool.eq_iff_iff, List.contains_iff_mem, List.contains_iff_mem, mem_both]
  exact ⟨fun h' => h'.2.2, fun h' => ⟨h x hx, hx, h'⟩⟩
theorem do_may {a b : Vi} (h1 : viewOK a = true) (h2 : viewOK b = true) (h : 0 < (bothF (offF a) (offF b)).length) : mayF a b = true := by
  obtain ⟨x, hx⟩ : ∃ x, x ∈ bothF (offF a) (offF b) := ⟨_, gmem h⟩
  obtain ⟨hx0, ha, hb⟩ := mem_both.1 hx
  have bnd : ∀ v : Vi, viewOK v = true → x ∈ offF v → 0 ≤ (bdF v).1 ∧ (bdF v).1 ≤ x ∧ x ≤ (bdF v).2 := fun v hv hm => by
    have hp : 0 < (offF v).length := List.length_pos_of_mem hm
    have hz : ¬ prodW v.sh = 0 := fun hz => by rw [offF_zero hz] at hp; simp at hp
    unfold bdF
    rw [if_pos ⟨hv, hz⟩]
    obtain ⟨m1, m2⟩ := mnT_b (l := offF v) _ hp (Nat.le_refl _)
    obtain ⟨m3, m4⟩ := mxT_b (l := offF v) _ hp (Nat.le_refl _)
    obtain ⟨i, hi, e⟩ := mem_getI hm
    have := m2 i hi
    have := m4 i hi
    have := offF_in hv _ m1
    dsimp only
    omega
  have b1 := bnd a h1 ha
  have b2 := bnd b h2 hb
  unfold mayF
  simp only [Bool.and_eq_true, decide_eq_true_eq]
  omega
theorem may_do {a b : Vi} (h1 : viewOK a = true) (h2 : viewOK b = true) (ga : (gapF (srt (offF a))).length = 0) (gb : (gapF (srt (offF b))).length = 0) (h : mayF a b = true) : 0 < (bothF (offF a) (offF b)).length := by
  unfold mayF at h
  simp only [Bool.and_eq_true, decide_eq_true_eq] at h
  have all : ∀ v : Vi, viewOK v = true → (gapF (srt (offF v))).length = 0 → 0 ≤ (bdF v).1 → ∀ x, (bdF v).1 ≤ x → x ≤ (bdF v).2 → x ∈ offF v := fun v hv hg h0 x hx1 hx2 => by
    by_cases hz : prodW v.sh = 0
    · rw [bd_none hz] at h0; exact absurd h0 (by decide)
    · have hp := offF_pos hv hz
      unfold bdF at hx1 hx2
      rw [if_pos ⟨hv, hz⟩] at hx1 hx2
      dsimp only at hx1 hx2
      rw [mn_srt hp] at hx1
      rw [mx_srt hp] at hx2
      have hc0 : 0 < (srt (offF v)).length := List.length_pos_of_mem ((srt_mem _ _).2 (gmem hp))
      have := gap_has (srt_in60 (offF_in hv)) hc0 hx1 hx2
      rw [List.eq_nil_of_length_eq_zero hg] at this
      have hc : (srt (offF v)).contains x = true := by simpa using this
      exact (srt_mem _ _).1 (List.contains_iff_mem.1 hc)
  have l1 := bd_le a
  have l2 := bd_le b
  obtain ⟨x, x1, x2, x3, x4⟩ : ∃ x, (bdF a).1 ≤ x ∧ x ≤ (bdF a).2 ∧ (bdF b).1 ≤ x ∧ x ≤ (bdF b).2 := by
    by_cases hc : (bdF a).1 ≤ (bdF b).1
    · exact ⟨(bdF b).1, by omega, by omega, by omega, by omega⟩
    · exact ⟨(bdF a).1, by omega, by omega, by omega, by omega⟩
  have m1 := all a h1 ga (by omega) x x1 x2
  have m2 := all b h2 gb (by omega) x x3 x4
  exact List.length_pos_of_mem (mem_both.2 ⟨offF_in h1 x m1, m1, m2⟩)
theorem both_srt {A B : List Int} (hB : inC B) : decide (bothF A B = srt B) = B.all fun x => A.contains x := by
  rw [← both_all hB, Bool.eq_iff_iff, decide_eq_true_eq, decide_eq_true_eq]
  constructor
  · intro h; rw [h]
  · intro h
    have e : bothF A B = (srt B).filter fun x => A.contains x := by
      refine asc_ext (both_asc A B) ((srt_asc B).sublist List.filter_sublist) fun x => ?_
      rw [List.mem_filter, List.contains_iff_mem, srt_mem, mem_both]
      exact ⟨fun h => ⟨h.2.2, h.2.1⟩, fun h => ⟨hB x h.1, h.2, h.1⟩⟩
    rw [e] at h ⊢
    exact List.filter_eq_self.2 (List.length_filter_eq_length_iff.1 h)
end Go.Proofs.Ytjmkdnnfhphckaa
namespace Go.Proofs.Ytjmkdnnfhphckaa
open Go Go.Ev Go.RowKit Go.Ev.Enc Go.Pl

def viOK (v : Vi) : Prop := v.sh.length ≤ 4 ∧ v.st.length ≤ 5
theorem fr_two {g : Nat → Option Nat} {L : List Blk} {a b : Vi} : selV g L (.tup [viD a, viD b]) = .tup [viD a, viD b] := by
  rw [selV_tup]
  simp only [List.map_cons, List.map_nil, expE, selC_d, selC_int]
theorem fr_twoS {L : List Blk} {n k : Nat} {a v : Vi} (hk : n ≤ k) {m : Nat} (hm : v.st.length = m) (h : L[k]? = some (stB v.st)) : selV (gR n []) L (.tup [viD a, .agg [i64 v.b, ints 1 v.sh, .sl k m 0 m m]]) = .tup [viD a, viD v] := by
  subst hm
  rw [selV_tup]
  simp only [List.map_cons, List.map_nil, expE, selC_ints (gR_ge hk) h, selC_d, selC_int]
end Go.Proofs.Ytjmkdnnfhphckaa
namespace Go.Proofs.Ytjmkdnnfhphckaa
open Go Go.Ev Go.RowKit Go.Ev.Enc Go.Pl

def rowI (s : List Int) : List Int := (List.range s.length).map fun i => prodW (s.drop (i + 1))
theorem rowI_len (s : List Int) : (rowI s).length = s.length := by simp [rowI]
def isRowF (v : Vi) : Bool := viewOK v && decide (offF v = offF ⟨v.b, v.sh, rowI v.sh⟩)
def sameF (a b : Vi) : Bool := okk a b && (decide (a.sh = b.sh) && decide (offF a = offF b))
theorem sameF_iff {a b : Vi} : sameF a b = true ↔ (viewOK a = true ∧ viewOK b = true) ∧ a.sh = b.sh ∧ offF a = offF b := by
  unfold sameF
  rw [Bool.and_eq_true, Bool.and_eq_true, okk_iff, decide_eq_true_eq, decide_eq_true_eq]
theorem divR_0 : ∀ s : List Int, divR s 0 = 0
  | [] => rfl
  | d :: r => by rw [divR, Int.zero_tdiv, divR_0 r]
theorem unrF_0 (s : List Int) (m : Nat) : (unrF s 0).getD m 0 = 0 := by
  by_cases h : m < s.length
  · rw [unrF_at h, divR_0, Int.zero_tmod]
  · rw [List.getD_eq_getElem?_getD, List.getElem?_eq_none (by rw [unrF_len]; omega)]; rfl
theorem offW_0 {v : Vi} (hb : 0 ≤ v.b ∧ v.b ≤ 60) {x : List Int} (hx : ∀ m, x.getD m 0 = 0) : ∀ m, offW v x m = v.b
  | 0 => rfl
  | m + 1 => by
    rw [offW, offW_0 hb hx m, hx m, Int.zero_mul, show IntKind.i64.wrap 0 = 0 from rfl, Int.add_zero, wrap_in (by omega)]
theorem off_first {v : Vi} (h : viewOK v = true) (hz : ¬ prodW v.sh = 0) : (offF v).getD 0 0 = v.b := by
  have hv := viewOK_iff.1 h
  have hs := shape_facts hv.1
  have hp : 0 < (prodW v.sh).toNat := by omega
  have e : (offF v).getD 0 0 = offW v (unrF v.sh ((0 : Nat) : Int)) v.sh.length := by
    unfold offF
    rw [List.getD_eq_getElem?_getD, List.getElem?_map, List.getElem?_range hp]; rfl
  rw [e]
  exact offW_0 hv.2.2.2.1 (fun m => unrF_0 _ m) _
theorem same_row {a b : Vi} (h : sameF a b = true) : isRowF a = isRowF b := by
  obtain ⟨⟨h1, h2⟩, hs, ho⟩ := sameF_iff.1 h
  unfold isRowF
  rw [h1, h2, ho, hs]
  by_cases hz : prodW b.sh = 0
  · rw [offF_zero (v := ⟨a.b, b.sh, rowI b.sh⟩) hz, offF_zero (v := ⟨b.b, b.sh, rowI b.sh⟩) hz]
  · have e : a.b = b.b := by rw [← off_first h1 (hs ▸ hz), ← off_first h2 hz, ho]
    rw [e]
def gSame (a b : Vi) : Option Bool := gd (viB2 a b) (sameF a b)
theorem gSame_eq {a b : Vi} (h : viB2 a b) : gSame a b = some (sameF a b) := gd_eq h
def gIsRow (v : Vi) : Option Bool := gd (viB v) (isRowF v)
theorem gIsRow_eq {v : Vi} (h : viB v) : gIsRow v = some (isRowF v) := gd_eq h
def gRowI (s : List Int) : Option (List Int) := gd (s.length ≤ 1048576) (rowI s)
theorem gRowI_eq {s : List Int} (h : s.length ≤ 1048576) : gRowI s = some (rowI s) := gd_eq h
theorem rc_abs {bs : List UInt8} {b n : Nat} {f : Int → List Blk} (h : RC bs b n f) : ∃ rL, (∀ p, f p = rL p) ∧ RC bs b n rL := ⟨f, fun _ => rfl, h⟩
end Go.Proofs.Ytjmkdnnfhphckaa
namespace Go.Proofs.Ytjmkdnnfhphckaa
open Go Go.Ev Go.RowKit Go.Ev.Enc Go.Pl

def latB (A B : List Int) (k : Nat) : Bool := (List.range k).any fun i => (B.drop (i + 1)).contains (A.getD i 0)
def earB (A B : List Int) (k : Nat) : Bool := (List.range k).any fun i => (B.take i).contains (A.getD i 0)
theorem latB_s (A B : List Int) (k : Nat) : latB A B (k + 1) = (latB A B k || (B.drop (k + 1)).contains (A.getD k 0)) := by
  unfold latB
  rw [List.range_succ, List.any_append]
  simp
theorem earB_s (A B : List Int) (k : Nat) : earB A B (k + 1) = (earB A B k || (B.take k).contains (A.getD k 0)) := by
  unfold earB
  rw [List.range_succ, List.any_append]
  simp
def viol (A B : List Int) (back : Bool) (i k : Nat) : Prop := A.getD i 0 = B.getD k 0 ∧ if back = true then k < i else i < k
instance (A B : List Int) (back : Bool) (i k : Nat) : Decidable (viol A B back i k) := by unfold viol; infer_instance
def cleanB (A B : List Int) (back : Bool) : Bool := decide (∀ i, i < A.length → ∀ k, k < A.length → ¬ viol A B back i k)
theorem memDI {B : List Int} {n : Nat} {x : Int} : x ∈ B.drop n ↔ ∃ k, n ≤ k ∧ k < B.length ∧ B.getD k 0 = x := by
  constructor
  · intro h
    obtain ⟨i, hi, rfl⟩ := List.mem_iff_getElem.1 h
    rw [List.length_drop] at hi
    exact ⟨n + i, by omega, by omega, by simp [show n + i < B.length by omega]⟩
  · rintro ⟨k, h1, h2, rfl⟩
    refine List.mem_iff_getElem.2 ⟨k - n, by rw [List.length_drop]; omega, ?_⟩
    rw [List.getElem_drop]
    simp [h2, show n + (k - n) = k by omega]
theorem memTI {B : List Int} {n : Nat} {x : Int} : x ∈ B.take n ↔ ∃ k, k < n ∧ k < B.length ∧ B.getD k 0 = x := by
  constructor
  · intro h
    obtain ⟨i, hi, rfl⟩ := List.mem_iff_getElem.1 h
    rw [List.length_take] at hi
    exact ⟨i, by omega, by omega, by simp [show i < B.length by omega]⟩
  · rintro ⟨k, h1, h2, rfl⟩
    refine List.mem_iff_getElem.2 ⟨k, by rw [List.length_take]; omega, ?_⟩
    rw [List.getElem_take]
    simp [h2]
theorem latB_iff {A B : List Int} {n : Nat} : latB A B n = true ↔ ∃ i, i < n ∧ ∃ k, i < k ∧ k < B.length ∧ B.getD k 0 = A.getD i 0 := by
  unfold latB
  rw [List.any_eq_true]
  constructor
  · rintro ⟨i, hi, h⟩
    obtain ⟨k, h1, h2, h3⟩ := memDI.1 (List.contains_iff_mem.1 h)
    exact ⟨i, List.mem_range.1 hi, k, by omega, h2, h3⟩
  · rintro ⟨i, hi, k, h1, h2, h3⟩
    exact ⟨i, List.mem_range.2 hi, List.contains_iff_mem.2 (memDI.2 ⟨k, by omega, h2, h3⟩)⟩
theorem earB_iff {A B : List Int} {n : Nat} : earB A B n = true ↔ ∃ i, i < n ∧ ∃ k, k < i ∧ k < B.length ∧ B.getD k 0 = A.getD i 0 := by
  unfold earB
  rw [List.any_eq_true]
  constructor
  · rintro ⟨i, hi, h⟩
    obtain ⟨k, h1, h2, h3⟩ := memTI.1 (List.contains_iff_mem.1 h)
    exact ⟨i, List.mem_range.1 hi, k, by omega, h2, h3⟩
  · rintro ⟨i, hi, k, h1, h2, h3⟩
    exact ⟨i, List.mem_range.2 hi, List.contains_iff_mem.2 (memTI.2 ⟨k, by omega, h2, h3⟩)⟩
theorem clean_f {A B : List Int} (h : A.length = B.length) : cleanB A B false = !latB A B A.length := by
  rw [Bool.eq_iff_iff, Bool.not_eq_true', ← Bool.not_eq_true, latB_iff]
  unfold cleanB viol
  rw [decide_eq_true_eq]
  constructor
  · rintro h1 ⟨i, hi, k, h2, h3, h4⟩
    exact h1 i hi k (by omega) ⟨h4.symm, by simpa using h2⟩
  · rintro h1 i hi k hk ⟨h2, h3⟩
    exact h1 ⟨i, hi, k, by simpa using h3, by omega, h2.symm⟩
theorem clean_t {A B : List Int} (h : A.length = B.length) : cleanB A B true = !earB A B A.length := by
  rw [Bool.eq_iff_iff, Bool.not_eq_true', ← Bool.not_eq_true, earB_iff]
  unfold cleanB viol
  rw [decide_eq_true_eq]
  constructor
  · rintro h1 ⟨i, hi, k, h2, h3, h4⟩
    exact h1 i hi k (by omega) ⟨h4.symm, by simpa using h2⟩
  · rintro h1 i hi k hk ⟨h2, h3⟩
    exact h1 ⟨i, hi, k, by simpa using h3, by omega, h2.symm⟩
/-- the way to copy -/
def wayL (A B : List Int) : Int := if latB A B A.length = false then 0 else if earB A B A.length = false ∧ diffF A = true then 1 else 2
def wayF (a b : Vi) : Int := if okk a b = true ∧ a.sh = b.sh then wayL (offF a) (offF b) else -1
theorem lat_none {A B : List Int} (hA : inC A) (h : ¬ 0 < (bothF A B).length) : latB A B A.length = false := by
  rw [← Bool.not_eq_true, latB_iff]
  rintro ⟨i, hi, k, h1, h2, h3⟩
  refine h (List.length_pos_of_mem (a := A.getD i 0) (mem_both.2 ⟨hA _ (gmem hi), gmem hi, ?_⟩))
  rw [← h3]
  exact gmem h2
theorem lat_self {A : List Int} (h : diffF A = true) : latB A A A.length = false := by
  rw [← Bool.not_eq_true, latB_iff]
  rintro ⟨i, hi, k, h1, h2, h3⟩
  have := (List.nodup_iff_pairwise_ne.1 (diffF_nodup.1 h))
  have := List.pairwise_iff_getElem.1 this i k hi h2 h1
  simp only [List.getD_eq_getElem?_getD, List.getElem?_eq_getElem hi, List.getElem?_eq_getElem h2, Option.getD_some] at h3
  exact this h3.symm
def gClean (A B : List Int) (back : Bool) : Option Bool := gd (A.length ≤ B.length ∧ B.length < 4294967296) (cleanB A B back)
theorem gClean_eq {A B : List Int} (h : A.length ≤ B.length ∧ B.length < 4294967296) (back : Bool) : gClean A B back = some (cleanB A B back) := gd_eq h
def gWay (a b : Vi) : Option Int := gd (viB2 a b) (wayF a b)
theorem gWay_eq {a b : Vi} (h : viB2 a b) : gWay a b = some (wayF a b) := gd_eq h
theorem way_no {a b : Vi} (h : ¬ (okk a b = true ∧ a.sh = b.sh)) : wayF a b = -1 := by unfold wayF; rw [if_neg h]
theorem way_yes {a b : Vi} (h1 : viewOK a = true) (h2 : viewOK b = true) (h3 : a.sh = b.sh) : wayF a b = wayL (offF a) (offF b) := by unfold wayF; rw [if_pos ⟨okk_iff.2 ⟨h1, h2⟩, h3⟩]
theorem wayL_0 {A B : List Int} (h : latB A B A.length = false) : wayL A B = 0 := by unfold wayL; rw [if_pos h]
theorem wayL_1 {A B : List Int} (h : latB A B A.length = true) (h1 : earB A B A.length = false) (h2 : diffF A = true) : wayL A B = 1 := by unfold wayL; rw [if_neg (by rw [h]; simp), if_pos ⟨h1, h2⟩]
theorem wayL_2 {A B : List Int} (h : latB A B A.length = true) (h1 : ¬ (earB A B A.length = false ∧ diffF A = true)) : wayL A B = 2 := by unfold wayL; rw [if_neg (by rw [h]; simp), if_neg h1]
theorem wayL_cases (A B : List Int) : wayL A B = 0 ∨ wayL A B = 1 ∨ wayL A B = 2 := by
  unfold wayL
  split
  · exact .inl rfl
  · split
    · exact .inr (.inl rfl)
    · exact .inr (.inr rfl)
def FlipV : Prop := ∀ (v : Vi) (d : Int), v.sh.length ≤ 4 ∧ v.st.length ≤ 5 → OSpec Try.prog 49 [.agg [i64 v.b, ints 0 v.sh, ints 0 v.st], i64 d] (mdR (sliF v d flipS)) (mdN (sliF v d flipS))
end Go.Proofs.Ytjmkdnnfhphckaa
namespace Go.Proofs.Ytjmkdnnfhphckaa
open Go Go.Ev Go.RowKit Go.Ev.Enc Go.Pl

/-! ### lists of views -/
def vsB (l : List Vi) : Prop := l.length ≤ 1000 ∧ ∀ v ∈ l, viB v
instance (l : List Vi) : Decidable (vsB l) := by unfold vsB; infer_instance
abbrev visD (t : Nat) (l : List Vi) : AV := .ds t (l.map fun x => .agg [.int .i64 x.b, ints t x.sh, ints t x.st])
def vsOK (l : List Vi) : Bool := decide (l.length ≤ 8) && l.all viewOK
def gVs (l : List Vi) : Option Bool := gd (vsB l) (vsOK l)
theorem gVs_eq {l : List Vi} (h : vsB l) : gVs l = some (vsOK l) := gd_eq h
theorem all_any {l : List Vi} : (!l.any fun v => !viewOK v) = l.all viewOK := by
  rw [Bool.eq_iff_iff, Bool.not_eq_true', List.any_eq_false, List.all_eq_true]
  simp
def hldT (l : List Vi) (x : Int) (k : Nat) : List Int := ((List.range k).filter fun i => (offF (l.getD i ⟨0, [], []⟩)).contains x).map fun i : Nat => (i : Int)
theorem hldT_s (l : List Vi) (x : Int) (k : Nat) : hldT l x (k + 1) = if (offF (l.getD k ⟨0, [], []⟩)).contains x = true then hldT l x k ++ [(k : Int)] else hldT l x k := by
  unfold hldT
  rw [List.range_succ, List.filter_append, List.map_append]
  simp only [List.filter_cons, List.filter_nil]
  split
  · rfl
  · simp
theorem hldT_len (l : List Vi) (x : Int) (k : Nat) : (hldT l x k).length ≤ k := by
  unfold hldT
  rw [List.length_map]
  exact Nat.le_trans (List.length_filter_le _ _) (by simp)
theorem hldT_mem {l : List Vi} {x : Int} {n i : Nat} (hi : i < n) : (hldT l x n).contains (i : Int) = (offF (l.getD i ⟨0, [], []⟩)).contains x := by
  rw [Bool.eq_iff_iff, List.contains_iff_mem]
  unfold hldT
  rw [List.mem_map]
  constructor
  · rintro ⟨j, hj, e⟩
    obtain rfl : j = i := by omega
    exact (List.mem_filter.1 hj).2
  · exact fun h => ⟨i, List.mem_filter.2 ⟨List.mem_range.2 hi, h⟩, rfl⟩
theorem hldT_asc (l : List Vi) (x : Int) (n : Nat) : (hldT l x n).Pairwise (· < ·) := by
  unfold hldT
  rw [List.pairwise_map]
  refine (List.Pairwise.sublist List.filter_sublist (List.pairwise_lt_range (n := n))).imp fun h => by omega
def gHold (l : List Vi) (x : Int) : Option (List Int) := gd (vsB l) (if vsOK l = true then hldT l x l.length else [])
theorem gHold_eq {l : List Vi} (h : vsB l) (x : Int) : gHold l x = some (if vsOK l = true then hldT l x l.length else []) := gd_eq h
theorem vsOK_all {l : List Vi} (h : vsOK l = true) : l.length ≤ 8 ∧ ∀ v ∈ l, viewOK v = true := by
  unfold vsOK at h
  simp only [Bool.and_eq_true, decide_eq_true_eq, List.all_eq_true] at h
  exact h
/-- views that are data, each with its mark -/
abbrev viT (x : Nat × Vi) : AV := .agg [.int .i64 x.2.b, ints x.1 x.2.sh, ints x.1 x.2.st]
theorem ee_vit (t : Nat) (L : List Blk) (q : List (Nat × Vi)) : expE (expC 0 L) (.ds t (q.map fun x => .agg [.int .i64 x.2.b, ints x.1 x.2.sh, ints x.1 x.2.st])) = visD 0 (q.map (·.2)) := by
  simp [expE, expC, stepC, Function.comp_def]
theorem getD_vit {q : List (Nat × Vi)} {k : Nat} (h : k < q.length) : (q.map fun x => AV.agg [.int .i64 x.2.b, ints x.1 x.2.sh, ints x.1 x.2.st]).getD k .any = .agg [.int .i64 (q.getD k (0, ⟨0, [], []⟩)).2.b, ints (q.getD k (0, ⟨0, [], []⟩)).1 (q.getD k (0, ⟨0, [], []⟩)).2.sh, ints (q.getD k (0, ⟨0, [], []⟩)).1 (q.getD k (0, ⟨0, [], []⟩)).2.st] := by simp [h]
theorem getD_snd {q : List (Nat × Vi)} {k : Nat} : (q.map (·.2)).getD k ⟨0, [], []⟩ = (q.getD k (0, ⟨0, [], []⟩)).2 := by
  by_cases h : k < q.length <;> simp [h]
def DrHold (f : FuncId) : Prop := ∀ (bs : List UInt8), bs.length ≤ 1048576 → ∀ L : List Blk, ISpec Try.prog f [bytesA 0 bs] L fun r L' => ∃ (q : List (Nat × Vi)) (x : Int), vsB (q.map (·.2)) ∧ r = .tup [.ds 1 (q.map viT), i64 x] ∧ L' = L
end Go.Proofs.Ytjmkdnnfhphckaa
namespace Go.Proofs.Ytjmkdnnfhphckaa
open Go Go.Ev Go.RowKit Go.Ev.Enc Go.Pl

/-! ### lists of ranges -/
theorem enc_rgs (t : Nat) (l : List Rg) : (enc t l : AV) = .ds t (l.map fun x => .agg [.int .i64 x.a, .int .i64 x.z, .int .i64 x.s]) := rfl
theorem dec_rgs (l : List Rg) : (dec (.ds 0 (l.map fun x => .agg [.int .i64 x.a, .int .i64 x.z, .int .i64 x.s])) : Option (List Rg)) = some l := (ok _ _).2 rfl
theorem ee_rgs (t t' : Nat) (L : List Blk) (l : List Rg) : expE (expC t L) (.ds t' (l.map fun x => .agg [.int .i64 x.a, .int .i64 x.z, .int .i64 x.s])) = .ds (min t' t) (l.map fun x => .agg [.int .i64 x.a, .int .i64 x.z, .int .i64 x.s]) := by
  simp [expE, expC, stepC, Function.comp_def]
theorem getD_rgs {l : List Rg} {k : Nat} (h : k < l.length) : (l.map fun x => AV.agg [.int .i64 x.a, .int .i64 x.z, .int .i64 x.s]).getD k .any = .agg [.int .i64 (l.getD k ⟨0, 0, 0⟩).a, .int .i64 (l.getD k ⟨0, 0, 0⟩).z, .int .i64 (l.getD k ⟨0, 0, 0⟩).s] := by simp [h]
theorem gcV_rgs (n : Nat) (L : List Blk) (t : Nat) (l : List Rg) : gcV n L (.ds t (l.map fun x => .agg [.int .i64 x.a, .int .i64 x.z, .int .i64 x.s])) = .ds t (l.map fun x => .agg [.int .i64 x.a, .int .i64 x.z, .int .i64 x.s]) := by
  simp [gcV, expE, gcC, gcStep, Function.comp_def]
theorem expS_rgs (t : Nat) (L : List Blk) (e ver off len : Nat) (q : List Rg) : expS t L ver off len (some ⟨e, q.map fun x => .agg [.int .i64 x.a, .int .i64 x.z, .int .i64 x.s]⟩) = if q.length = ver ∧ off + len ≤ ver then .ds t (((q.drop off).take len).map fun x => .agg [.int .i64 x.a, .int .i64 x.z, .int .i64 x.s]) else .any := by
  simp [expS, expE, stepC, Function.comp_def]
theorem gcB_rgs (n : Nat) (L : List Blk) (e : Nat) (l : List Rg) : gcB n L ⟨e, l.map fun x => .agg [.int .i64 x.a, .int .i64 x.z, .int .i64 x.s]⟩ = ⟨e, l.map fun x => .agg [.int .i64 x.a, .int .i64 x.z, .int .i64 x.s]⟩ := by
  simp [gcB, expE, gcC, gcStep, Function.comp_def]
attribute [go_sem] gcB_rgs expS_rgs gcV_rgs enc_rgs dec_rgs ee_rgs
theorem evApp_rg {L : List Blk} {b n by' : Nat} {q : List Rg} {x : Rg} (hL : L[b]? = some ⟨3, q.map fun x => .agg [.int .i64 x.a, .int .i64 x.z, .int .i64 x.s]⟩) (hn : q.length = n) (h1 : (n + 1) * by' ≤ 140737488355328) (h2 : n + 1 ≤ 9223372036854775807) :
    evApp L (.sl b n 0 n n) [.agg [.int .i64 x.a, .int .i64 x.z, .int .i64 x.s]] 3 by' = some (.sl b (n + 1) 0 (n + 1) (n + 1), L.set b ⟨3, (q ++ [x]).map fun x => .agg [.int .i64 x.a, .int .i64 x.z, .int .i64 x.s]⟩) := by
  rw [evApp_gen hL (by simpa using hn) (by simpa using h1) (by simpa using h2)]
  simp
def rgOK (r : Rg) : Bool := inR r.a (-100) 100 && (inR r.z (-101) 101 && (inR r.s (-200) 200 && !(r.s == 0)))
def gRgOK (r : Rg) : Option Bool := gd True (rgOK r)
theorem gRgOK_eq (r : Rg) : gRgOK r = some (rgOK r) := rfl
/-- how many of k, k + w, .. are less than n -/
def cntD (n k w : Nat) : Nat := (n - k + (w - 1)) / w
def dealT (l : List Int) (k w m : Nat) : List Int := (List.range m).map fun j => l.getD (k + j * w) 0
theorem dealT_s (l : List Int) (k w m : Nat) : dealT l k w m ++ [l.getD (k + m * w) 0] = dealT l k w (m + 1) := by
  unfold dealT
  rw [List.range_succ, List.map_append]; rfl
theorem dealT_len (l : List Int) (k w m : Nat) : (dealT l k w m).length = m := by simp [dealT]
theorem cntD_lt {n k w m : Nat} (hw : 0 < w) : m < cntD n k w ↔ k + m * w < n := by
  unfold cntD
  rw [Nat.lt_iff_add_one_le, Nat.le_div_iff_mul_le hw, Nat.add_mul]
  omega
def dealF (l : List Int) (w : Nat) : List Rg := (List.range w).map fun k => nrmF (dealT l k w (cntD l.length k w))
def gDeal (r : Rg) (w : Int) : Option (List Rg) := gd (rgOK r = true ∧ 1 ≤ w ∧ w ≤ 6) (dealF (numF r) w.toNat)
theorem gDeal_eq {r : Rg} {w : Int} (h : rgOK r = true ∧ 1 ≤ w ∧ w ≤ 6) : gDeal r w = some (dealF (numF r) w.toNat) := gd_eq h
theorem rgOK_b {r : Rg} (h : rgOK r = true) : rgB r := by
  unfold rgOK inR at h
  simp only [Bool.and_eq_true, decide_eq_true_eq] at h
  obtain ⟨h1, h2, h3, _⟩ := h
  exact ⟨⟨by omega, by omega⟩, ⟨by omega, by omega⟩, by omega, by omega⟩
theorem numF_small {r : Rg} (h : rgB r) : smallL 1000 (numF r) := fun x hx => by
  obtain ⟨h1, h2, h3⟩ := h
  have := numL_in _ _ _ hx
  omega
theorem getD_small {m : Int} {l : List Int} (hm : 0 ≤ m) (h : smallL m l) (k : Nat) : -m ≤ l.getD k 0 ∧ l.getD k 0 ≤ m := by
  by_cases hk : k < l.length
  · exact smallL_at h hk
  · rw [List.getD_eq_getElem?_getD, List.getElem?_eq_none (by omega)]
    simp only [Option.getD_none]
    omega
/-! ### tilings -/
def tileV (w : Int) (g : Rg) : Option Vi := if 0 < (numF g).length then some ⟨(numF g).getD 0 0, [((numF g).length : Int)], [w]⟩ else none
def tileF (w : Int) (P : List Rg) (k : Nat) : List Vi := (P.take k).filterMap (tileV w)
theorem tileF_s {w : Int} {P : List Rg} {k : Nat} (hk : k < P.length) : tileF w P (k + 1) = match tileV w (P.getD k ⟨0, 0, 0⟩) with
    | some v => tileF w P k ++ [v]
    | none => tileF w P k := by
  unfold tileF
  rw [List.take_succ_eq_append_getElem hk, List.filterMap_append]
  rw [show P.getD k ⟨0, 0, 0⟩ = P[k] by simp [hk]]
  cases h : tileV w P[k] <;> simp [h]
theorem tileF_len (w : Int) (P : List Rg) (k : Nat) : (tileF w P k).length ≤ k :=
  Nat.le_trans (List.length_filterMap_le _ _) (by rw [List.length_take]; omega)
theorem tileF_v {w : Int} {P : List Rg} {k : Nat} {v : Vi} (h : v ∈ tileF w P k) : v.sh.length = 1 ∧ v.st.length = 1 := by
  unfold tileF at h
  obtain ⟨g, -, hg⟩ := List.mem_filterMap.1 h
  unfold tileV at hg
  split at hg
  · cases hg; exact ⟨rfl, rfl⟩
  · cases hg
theorem tile_facts : ∀ n ∈ [(12 : Int), 8, 10, 6, 15], ∀ w ∈ [(2 : Int), 3, 1, 4], rgOK ⟨0, n, 1⟩ = true ∧ (dealF (numF ⟨0, n, 1⟩) w.toNat).all (fun g => decide (rgB g)) = true ∧ 0 < (tileF w (dealF (numF ⟨0, n, 1⟩) w.toNat) w.toNat).length := by decide +kernel
/-- a view in a list: its strides are data, or lie in a block -/
abbrev viE (v : Vi) : AV := .agg [.int .i64 v.b, ints 1 v.sh, ints 1 v.st]
theorem evApp_vi {L : List Blk} {b n by' : Nat} {q : List AV} {x : AV} (hL : L[b]? = some ⟨3, q⟩) (hn : q.length = n) (h1 : (n + 1) * by' ≤ 140737488355328) (h2 : n + 1 ≤ 9223372036854775807) :
    evApp L (.sl b n 0 n n) [x] 3 by' = some (.sl b (n + 1) 0 (n + 1) (n + 1), L.set b ⟨3, q ++ [x]⟩) :=
  evApp_gen hL hn (by simpa using h1) (by simpa using h2)
abbrev sel3 (g : Nat → Option Nat) (L : List Blk) : AV → AV := selStep g L (selStep g L (selStep g L fun _ => .any))
theorem selC_vis {g : Nat → Option Nat} {L : List Blk} {b m : Nat} {es fs : List AV} (hg : g b = none) (hb : L[b]? = some ⟨3, es⟩) (hm : es.length = m) (h : es.map (expE (sel3 g L)) = fs) : selC g L (.sl b m 0 m m) = .ds 1 fs := by
  subst hm h
  simp [selC, selStep, hg, hb, sel3]
theorem sel3_vit {g : Nat → Option Nat} {L : List Blk} (x : Nat × Vi) : expE (sel3 g L) (viT x) = viT x := by
  simp [sel3, selStep, expE, Function.comp_def, ints]
theorem sel3_vis {g : Nat → Option Nat} {L : List Blk} {k : Nat} {v : Vi} (hg : g k = none) (hb : L[k]? = some (stB v.st)) : expE (sel3 g L) (viS k v) = viT (1, v) := by
  simp [sel3, selStep, expE, Function.comp_def, ints, hg, hb, List.take_of_length_le]
theorem sel3_map {g : Nat → Option Nat} {L : List Blk} (q : List (Nat × Vi)) : (q.map viT).map (expE (sel3 g L)) = q.map viT := by
  rw [List.map_map]
  exact List.map_congr_left fun x _ => sel3_vit x
theorem selC_vit {g : Nat → Option Nat} {L : List Blk} {t : Nat} {q : List (Nat × Vi)} : selC g L (.ds t (q.map viT)) = .ds t (q.map viT) := by
  show AV.ds t ((q.map viT).map (expE (sel3 g L))) = _
  rw [sel3_map]
end Go.Proofs.Ytjmkdnnfhphckaa
