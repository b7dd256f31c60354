/- Contracts of functions that the laws of this seat call. -/
import Derived.Test.YtgpflkmelindfaaGb
set_option linter.all false
namespace Go.Proofs.Ytgpflkmelindfaa
open Go Go.Ev Go.RowKit Go.Ev.Enc Go.Pl

/-- a view: its first cell, its extents and its strides -/
structure Vi where
  b : Int
  sh : List Int
  st : List Int
  deriving DecidableEq
instance : Enc Vi where
  enc t x := .agg [.int .i64 x.b, ints t x.sh, ints t x.st]
  dec | .agg [z, x, y] => (dec z).bind fun n => (dec x).bind fun a => (dec y).map fun b => ⟨n, a, b⟩
      | _ => none
  ok x a := by
    constructor
    · intro h
      split at h
      · simp only [Option.bind_eq_some_iff, Option.map_eq_some_iff] at h
        obtain ⟨n, hn, p, hp, q, hq, rfl⟩ := h
        rw [(ok _ _).1 hn, (ok _ _).1 hp, (ok _ _).1 hq]; rfl
      · simp at h
    · rintro rfl
      show ((dec (enc 0 a.b)).bind fun n => (dec (enc 0 a.sh)).bind fun p => (dec (enc 0 a.st)).map fun q => (⟨n, p, q⟩ : Vi)) = some a
      rw [(ok _ a.b).2 rfl, (ok _ a.sh).2 rfl, (ok _ a.st).2 rfl]; rfl
  own a := .agg _ (by
    intro x hx
    simp only [List.mem_cons, List.not_mem_nil, or_false] at hx
    rcases hx with rfl | rfl | rfl
    · exact own a.b
    · exact own a.sh
    · exact own a.st)
theorem enc_vi (t : Nat) (x : Vi) : (enc t x : AV) = .agg [.int .i64 x.b, ints t x.sh, ints t x.st] := rfl
theorem enc_vis (t : Nat) (l : List Vi) : (enc t l : AV) = .ds t (l.map fun x => .agg [.int .i64 x.b, ints t x.sh, ints t x.st]) := rfl
theorem dec_vi (n : Int) (a b : List Int) : (dec (.agg [.int .i64 n, .ds 0 (a.map fun n => .int .i64 n), .ds 0 (b.map fun n => .int .i64 n)]) : Option Vi) = some ⟨n, a, b⟩ := (ok _ _).2 rfl
theorem dec_vi0 (n : Int) : (dec (.agg [.int .i64 n, .ds 0 [], .ds 0 []]) : Option Vi) = some ⟨n, [], []⟩ := (ok _ _).2 rfl
theorem dec_vis (l : List Vi) : (dec (.ds 0 (l.map fun x => .agg [.int .i64 x.b, ints 0 x.sh, ints 0 x.st])) : Option (List Vi)) = some l := (ok _ _).2 rfl
theorem ee_vis (t t' : Nat) (L : List Blk) (l : List Vi) : expE (expC t L) (.ds t' (l.map fun x => .agg [.int .i64 x.b, ints t' x.sh, ints t' x.st])) = .ds (min t' t) (l.map fun x => .agg [.int .i64 x.b, ints (min t' t) x.sh, ints (min t' t) x.st]) := by
  simp [expE, expC, stepC, Function.comp_def]
theorem getD_vis {t : Nat} {l : List Vi} {k : Nat} (h : k < l.length) : (l.map fun x => AV.agg [.int .i64 x.b, ints t x.sh, ints t x.st]).getD k .any = .agg [.int .i64 (l.getD k ⟨0, [], []⟩).b, ints t (l.getD k ⟨0, [], []⟩).sh, ints t (l.getD k ⟨0, [], []⟩).st] := by simp [h]
theorem vi_eta (x : Vi) : (⟨x.b, x.sh, x.st⟩ : Vi) = x := rfl
theorem gcV_vis (n : Nat) (L : List Blk) (t : Nat) (l : List Vi) : gcV n L (.ds t (l.map fun x => .agg [.int .i64 x.b, ints t x.sh, ints t x.st])) = .ds t (l.map fun x => .agg [.int .i64 x.b, ints t x.sh, ints t x.st]) := by
  simp [gcV, expE, gcC, gcStep, Function.comp_def]
theorem expS_vis (t t' : Nat) (L : List Blk) (e ver off len : Nat) (q : List Vi) : expS t L ver off len (some ⟨e, q.map fun x => .agg [.int .i64 x.b, ints t' x.sh, ints t' x.st]⟩) = if q.length = ver ∧ off + len ≤ ver then .ds t (((q.drop off).take len).map fun x => .agg [.int .i64 x.b, ints (min t' t) x.sh, ints (min t' t) x.st]) else .any := by
  simp [expS, expE, stepC, Function.comp_def]
attribute [go_sem] expS_vis gcV_vis enc_vi enc_vis dec_vi dec_vi0 dec_vis ee_vis vi_eta

def cnV := And.intro @evApp_z0 (And.intro @evApp_z1 (And.intro @evApp_z2 (And.intro @evApp_z3 (And.intro @getD_tsrs (And.intro @fillA_len (And.intro @fillA_at (And.intro @fillA_full (And.intro @evApp_i6 @getD_vis))))))))
/-! ### cells -/
/-- the cell of an index, as the code adds it up -/
def offW (v : Vi) (x : List Int) : Nat → Int
  | 0 => v.b
  | m + 1 => IntKind.i64.wrap (offW v x m + IntKind.i64.wrap (x.getD m 0 * v.st.getD m 0))
def offF (v : Vi) : List Int := (List.range (prodW v.sh).toNat).map fun k : Nat => offW v (unrF v.sh (k : Int)) v.sh.length
def viewOK (v : Vi) : Bool := shapeOK v.sh && (decide (v.st.length = v.sh.length) && (v.st.all (fun n => inR n (-60) 60) && (inR v.b 0 60 && (offF v).all fun n => inR n 0 59)))
def viB (v : Vi) : Prop := v.sh.length < 4294967296 ∧ v.st.length < 4294967296
instance (v : Vi) : Decidable (viB v) := by unfold viB; infer_instance
def gOffset (v : Vi) (x : List Int) : Option Int := gd (x.length ≤ v.st.length ∧ v.st.length < 4294967296) (offW v x x.length)
theorem gOffset_eq {v : Vi} {x : List Int} (h : x.length ≤ v.st.length ∧ v.st.length < 4294967296) : gOffset v x = some (offW v x x.length) := gd_eq h
def gOffsets (v : Vi) : Option (List Int) := gd (shapeOK v.sh = true ∧ v.st.length = v.sh.length) (offF v)
theorem gOffsets_eq {v : Vi} (h : shapeOK v.sh = true ∧ v.st.length = v.sh.length) : gOffsets v = some (offF v) := gd_eq h
def gValidV (v : Vi) : Option Bool := gd (viB v) (viewOK v)
theorem gValidV_eq {v : Vi} (h : viB v) : gValidV v = some (viewOK v) := gd_eq h
theorem offs_snoc (v : Vi) (n : Nat) : ((List.range n).map fun k : Nat => offW v (unrF v.sh (k : Int)) v.sh.length) ++ [offW v (unrF v.sh (n : Int)) v.sh.length] = (List.range (n + 1)).map fun k : Nat => offW v (unrF v.sh (k : Int)) v.sh.length := by
  rw [List.range_succ, List.map_append]; rfl
theorem shape_facts {s : List Int} (h : shapeOK s = true) : s.length ≤ 4 ∧ inE s ∧ prodW s = prE s ∧ 0 ≤ prodW s ∧ prodW s ≤ 60 := by
  unfold shapeOK at h
  simp only [Bool.and_eq_true, decide_eq_true_eq, List.all_eq_true] at h
  have h1 : inE s := fun x hx => by have := h.1.2 x hx; unfold inExt at this; simpa using this
  have h2 := prodW_eq h1 (by omega)
  have h3 := prE_nn h1
  exact ⟨h.1.1, h1, h2, by omega, h.2⟩
theorem shape_pos {s : List Int} (h : shapeOK s = true) {k : Nat} (hk : k < (prodW s).toNat) : ∀ i, i < s.length → 1 ≤ s.getD i 0 := fun i hi => by
  obtain ⟨h1, h2, h3, h4, h5⟩ := shape_facts h
  exact prE_pos h2 (by omega) _ (gmem hi)
theorem offF_len (v : Vi) : (offF v).length = (prodW v.sh).toNat := by simp [offF]
set_option maxHeartbeats 2000000 in
set_option maxRecDepth 100000 in
theorem spec_indexAt {Sg : FuncId → Option (List AV → Option AV)} (hS : Sound Try.prog Sg) : ∀ a r, F2 gUnrank a = some r → CSpec Try.prog 98 a r := by
  refine spec2 Try.func98 rfl Try.pf hS ?_
  intro s k r hr
  obtain ⟨⟨h1, ⟨h2, h2'⟩, h3⟩, rfl⟩ := gd_some hr
  have hall : ∀ m, ∀ d ∈ s.reverse.take m, 1 ≤ d := fun m d hd => by
    have := List.mem_of_mem_take hd
    rw [List.mem_reverse] at this
    obtain ⟨i, hi, rfl⟩ := List.mem_iff_getElem.1 this
    have := h3 i hi
    simpa [hi] using this
  have hul := unrF_len s k
  repeat' (first | with_reducible first | refine kI (by kernel_rfl) ?_ | refine kN (by kernel_rfl) ?_ | (first | refine kB1 ?_ ?_ | refine kB2 ?_ ?_) <;> intro hp | (first | refine kD1 ?_ ?_ | refine kD2 ?_ ?_ | refine kS1 ?_ ?_ | refine kS2 ?_ ?_) <;> intro hp <;> try simp only [hp] | simp -implicitDefEqProofs (disch := omega) only [go_sem, Nat.reduceAdd, Nat.reduceSub, reduceCtorEq, Nat.reduceLT, Nat.reduceLeDiff, Nat.reduceEqDiff, Nat.reduceMul, Int.reduceToNat, ↓reduceIte, List.take_of_length_le, if_pos, if_neg, List.getElem?_set_self, List.set_set, cnE, cnV, Try.ntmps98, Try.results98])
  refine LoopQ.mix (fun t0 L0 nn ss => ∃ (m : Nat) (c : Int) (_ : Unit), (∃ x : Nat → AV, ss = ⟨mixL 0 (.k :: .v (i64 c) :: .k :: .k :: .k :: .k :: .v (i64 ((m : Nat) - 1)) :: .k :: .k :: .k :: .k :: .k :: .k :: .s :: .s :: .s :: .s :: .s :: .s :: .s :: .s :: .s :: .s :: .s :: .s :: .s :: .s :: .s :: .s :: .s :: .s :: .s :: .k :: []) t0 x, [⟨1, (fromEnd (unrF s k) m).map fun n => .int .i64 n⟩]⟩) ∧ (m ≤ s.length) ∧ (c = divR (s.reverse.take (s.length - m)) k) ∧ nn = m + 1) ?_ ?_
  · exact ⟨_, ⟨s.length, k, (), mixJ rfl (by rw [fromEnd, List.drop_of_length_le (by omega), List.append_nil]), Nat.le_refl _, by rw [Nat.sub_self]; rfl, rfl⟩⟩
  · rintro I0 hI0 n ss ⟨m, c, _, ⟨x, rfl⟩, g1, g2, rfl⟩
    have hc := divR_nn (s.reverse.take (s.length - m)) k (hall _) h2
    rw [← g2] at hc
    match m, g1 with
    | 0, _ =>
      have h0 : fromEnd (unrF s k) 0 = unrF s k := by simp [fromEnd]
      rw [h0]
      repeat' (first | with_reducible first | refine kI (by kernel_rfl) ?_ | refine kN (by kernel_rfl) ?_ | (first | refine kB1 ?_ ?_ | refine kB2 ?_ ?_) <;> intro hp | (first | refine kD1 ?_ ?_ | refine kD2 ?_ ?_ | refine kS1 ?_ ?_ | refine kS2 ?_ ?_) <;> intro hp <;> try simp only [hp] | simp -implicitDefEqProofs (disch := omega) only [go_sem, Nat.reduceAdd, Nat.reduceSub, reduceCtorEq, Nat.reduceLT, Nat.reduceLeDiff, Nat.reduceEqDiff, Nat.reduceMul, Int.reduceToNat, ↓reduceIte, List.take_of_length_le, if_pos, if_neg, List.getElem?_set_self, List.set_set, cnE, cnV, Try.ntmps98, Try.results98])
    | m + 1, hm =>
      have h4 := h3 m hm
      have ht := fromEnd_len (l := unrF s k) (m := m + 1) (by omega)
      have hs := fromEnd_set (l := unrF s k) (m := m) (by omega)
      have hv := unrF_at (k := k) hm
      rw [← g2] at hv
      rw [hv] at hs
      have hd : divR (s.reverse.take (s.length - m)) k = c.tdiv (s.getD m 0) := by rw [rev_drop hm, divR_app, ← g2]; rfl
      have h5 : 0 ≤ c.tdiv (s.getD m 0) := Int.tdiv_nonneg hc.1 (by omega)
      have h6 : c.tdiv (s.getD m 0) ≤ c := by rw [Int.tdiv_eq_ediv_of_nonneg hc.1]; exact Int.ediv_le_self _ hc.1
      have e1 : (((m + 1 : Nat) : Int) - 1) = (m : Int) := by omega
      rw [e1]
      have h7 : ¬ s.getD m 0 = 0 := by omega
      repeat' (first | with_reducible first | refine kI (by kernel_rfl) ?_ | refine kN (by kernel_rfl) ?_ | (first | refine kB1 ?_ ?_ | refine kB2 ?_ ?_) <;> intro hp | (first | refine kD1 ?_ ?_ | refine kD2 ?_ ?_ | refine kS1 ?_ ?_ | refine kS2 ?_ ?_) <;> intro hp <;> try simp only [hp] | simp -implicitDefEqProofs (disch := omega) only [go_sem, Nat.reduceAdd, Nat.reduceSub, reduceCtorEq, Nat.reduceLT, Nat.reduceLeDiff, Nat.reduceEqDiff, Nat.reduceMul, Int.reduceToNat, ↓reduceIte, List.take_of_length_le, if_pos, if_neg, List.getElem?_set_self, List.set_set, cnE, cnV, Try.ntmps98, Try.results98,  hs, ht, set_ints])
      exact ⟨m + 1, by omega, hI0 _ _ ⟨m, _, (), mixI rfl, by omega, hd.symm, rfl⟩⟩
set_option maxHeartbeats 4000000 in
set_option maxRecDepth 100000 in
theorem spec_offsetS {Sg : FuncId → Option (List AV → Option AV)} (hS : Sound Try.prog Sg) : ∀ a r, F2 gOffset a = some r → CSpec Try.prog 110 a r := by
  refine F2_spec ?_
  intro v ix r hr
  obtain ⟨⟨h1, h2⟩, rfl⟩ := gd_some hr
  refine CSpec.intro Try.func110 rfl (own _) (vc3_sound Try.pf hS hS _ _ _ ?_)
  repeat' (first | with_reducible first | refine kI (by kernel_rfl) ?_ | refine kN (by kernel_rfl) ?_ | (first | refine kB1 ?_ ?_ | refine kB2 ?_ ?_) <;> intro hp | (first | refine kD1 ?_ ?_ | refine kD2 ?_ ?_ | refine kS1 ?_ ?_ | refine kS2 ?_ ?_) <;> intro hp <;> try simp only [hp] | simp -implicitDefEqProofs (disch := omega) only [go_sem, Nat.reduceAdd, Nat.reduceSub, reduceCtorEq, Nat.reduceLT, Nat.reduceLeDiff, Nat.reduceEqDiff, Nat.reduceMul, Int.reduceToNat, ↓reduceIte, List.take_of_length_le, if_pos, if_neg, List.getElem?_set_self, List.set_set, cnE, cnV, Try.ntmps110, Try.results110])
  refine LoopQ.mix (fun t0 L0 nn ss => ∃ (m : Nat) (_ : Unit), (∃ x : Nat → AV, ss = ⟨mixL 0 (.k :: .k :: .k :: .k :: .k :: .v (i64 (offW v ix m)) :: .v (i64 (m : Nat)) :: .k :: .k :: .s :: .s :: .s :: .s :: .s :: .s :: .s :: .s :: .s :: .s :: .s :: .s :: .s :: .s :: .s :: .s :: .s :: .s :: .k :: []) t0 x, L0⟩) ∧ (m ≤ ix.length) ∧ nn = ix.length - m) ?_ ?_
  · exact ⟨_, ⟨0, (), mixI rfl, Nat.zero_le _, rfl⟩⟩
  · rintro I0 hI0 n ss ⟨m, _, ⟨y, rfl⟩, m1, rfl⟩
    by_cases hm : m < ix.length
    · have hms : m < v.st.length := by omega
      have hw : IntKind.i64.wrap (offW v ix m + IntKind.i64.wrap (ix.getD m 0 * v.st.getD m 0)) = offW v ix (m + 1) := rfl
      repeat' (first | with_reducible first | refine kI (by kernel_rfl) ?_ | refine kN (by kernel_rfl) ?_ | (first | refine kB1 ?_ ?_ | refine kB2 ?_ ?_) <;> intro hp | (first | refine kD1 ?_ ?_ | refine kD2 ?_ ?_ | refine kS1 ?_ ?_ | refine kS2 ?_ ?_) <;> intro hp <;> try simp only [hp] | simp -implicitDefEqProofs (disch := omega) only [go_sem, Nat.reduceAdd, Nat.reduceSub, reduceCtorEq, Nat.reduceLT, Nat.reduceLeDiff, Nat.reduceEqDiff, Nat.reduceMul, Int.reduceToNat, ↓reduceIte, List.take_of_length_le, if_pos, if_neg, List.getElem?_set_self, List.set_set, cnE, cnV, Try.ntmps110, Try.results110,  hw])
      exact ⟨ix.length - (m + 1), by omega, hI0 _ _ ⟨m + 1, (), mixI rfl, hm, rfl⟩⟩
    · obtain rfl : m = ix.length := by omega
      repeat' (first | with_reducible first | refine kI (by kernel_rfl) ?_ | refine kN (by kernel_rfl) ?_ | (first | refine kB1 ?_ ?_ | refine kB2 ?_ ?_) <;> intro hp | (first | refine kD1 ?_ ?_ | refine kD2 ?_ ?_ | refine kS1 ?_ ?_ | refine kS2 ?_ ?_) <;> intro hp <;> try simp only [hp] | simp -implicitDefEqProofs (disch := omega) only [go_sem, Nat.reduceAdd, Nat.reduceSub, reduceCtorEq, Nat.reduceLT, Nat.reduceLeDiff, Nat.reduceEqDiff, Nat.reduceMul, Int.reduceToNat, ↓reduceIte, List.take_of_length_le, if_pos, if_neg, List.getElem?_set_self, List.set_set, cnE, cnV, Try.ntmps110, Try.results110])
set_option maxHeartbeats 4000000 in
set_option maxRecDepth 100000 in
theorem spec_offsetI {Sg : FuncId → Option (List AV → Option AV)} (hS : Sound Try.prog Sg) : ∀ a r, F2 gOffset a = some r → CSpec Try.prog 100 a r := by
  refine F2_spec ?_
  intro v ix r hr
  obtain ⟨⟨h1, h2⟩, rfl⟩ := gd_some hr
  refine CSpec.intro Try.func100 rfl (own _) (vc3_sound Try.pf hS hS _ _ _ ?_)
  repeat' (first | with_reducible first | refine kI (by kernel_rfl) ?_ | refine kN (by kernel_rfl) ?_ | (first | refine kB1 ?_ ?_ | refine kB2 ?_ ?_) <;> intro hp | (first | refine kD1 ?_ ?_ | refine kD2 ?_ ?_ | refine kS1 ?_ ?_ | refine kS2 ?_ ?_) <;> intro hp <;> try simp only [hp] | simp -implicitDefEqProofs (disch := omega) only [go_sem, Nat.reduceAdd, Nat.reduceSub, reduceCtorEq, Nat.reduceLT, Nat.reduceLeDiff, Nat.reduceEqDiff, Nat.reduceMul, Int.reduceToNat, ↓reduceIte, List.take_of_length_le, if_pos, if_neg, List.getElem?_set_self, List.set_set, cnE, cnV, Try.ntmps100, Try.results100])
  refine LoopQ.mix (fun t0 L0 nn ss => ∃ (m : Nat) (_ : Unit), (∃ x : Nat → AV, ss = ⟨mixL 0 (.k :: .k :: .k :: .k :: .k :: .v (i64 (offW v ix m)) :: .s :: .s :: .k :: .k :: .k :: .k :: .v (i64 (m : Nat)) :: .s :: .s :: .s :: .s :: .s :: .s :: .s :: .s :: .s :: .s :: .s :: .s :: .s :: .s :: .k :: []) t0 x, L0⟩) ∧ (m ≤ ix.length) ∧ nn = ix.length - m) ?_ ?_
  · exact ⟨_, ⟨0, (), mixI rfl, Nat.zero_le _, rfl⟩⟩
  · rintro I0 hI0 n ss ⟨m, _, ⟨y, rfl⟩, m1, rfl⟩
    by_cases hm : m < ix.length
    · have hms : m < v.st.length := by omega
      have hw : IntKind.i64.wrap (offW v ix m + IntKind.i64.wrap (ix.getD m 0 * v.st.getD m 0)) = offW v ix (m + 1) := rfl
      repeat' (first | with_reducible first | refine kI (by kernel_rfl) ?_ | refine kN (by kernel_rfl) ?_ | (first | refine kB1 ?_ ?_ | refine kB2 ?_ ?_) <;> intro hp | (first | refine kD1 ?_ ?_ | refine kD2 ?_ ?_ | refine kS1 ?_ ?_ | refine kS2 ?_ ?_) <;> intro hp <;> try simp only [hp] | simp -implicitDefEqProofs (disch := omega) only [go_sem, Nat.reduceAdd, Nat.reduceSub, reduceCtorEq, Nat.reduceLT, Nat.reduceLeDiff, Nat.reduceEqDiff, Nat.reduceMul, Int.reduceToNat, ↓reduceIte, List.take_of_length_le, if_pos, if_neg, List.getElem?_set_self, List.set_set, cnE, cnV, Try.ntmps100, Try.results100,  hw])
      exact ⟨ix.length - (m + 1), by omega, hI0 _ _ ⟨m + 1, (), mixI rfl, hm, rfl⟩⟩
    · obtain rfl : m = ix.length := by omega
      repeat' (first | with_reducible first | refine kI (by kernel_rfl) ?_ | refine kN (by kernel_rfl) ?_ | (first | refine kB1 ?_ ?_ | refine kB2 ?_ ?_) <;> intro hp | (first | refine kD1 ?_ ?_ | refine kD2 ?_ ?_ | refine kS1 ?_ ?_ | refine kS2 ?_ ?_) <;> intro hp <;> try simp only [hp] | simp -implicitDefEqProofs (disch := omega) only [go_sem, Nat.reduceAdd, Nat.reduceSub, reduceCtorEq, Nat.reduceLT, Nat.reduceLeDiff, Nat.reduceEqDiff, Nat.reduceMul, Int.reduceToNat, ↓reduceIte, List.take_of_length_le, if_pos, if_neg, List.getElem?_set_self, List.set_set, cnE, cnV, Try.ntmps100, Try.results100])
set_option maxHeartbeats 4000000 in
set_option maxRecDepth 100000 in
theorem o_offsetsS {Sg : FuncId → Option (List AV → Option AV)} (hS : Sound Try.prog Sg) (hc : Sg 109 = some (F1 gCount)) (hu : Sg 111 = some (F2 gUnrank)) (ho : Sg 110 = some (F2 gOffset)) (v : Vi) (h1 : shapeOK v.sh = true) (h2 : v.st.length = v.sh.length) : OSpec Try.prog 62 [.agg [i64 v.b, ints 0 v.sh, ints 0 v.st]] (fun n => .sl n (offF v).length 0 (offF v).length (offF v).length) (fun _ => [⟨1, (offF v).map fun n => .int .i64 n⟩]) := by
  refine OSpec.intro Try.func62 rfl (vc3_sound Try.pf hS hS _ _ _ ?_)
  obtain ⟨s1, s2, s3, s4, s5⟩ := shape_facts h1
  have q1 := gCount_eq (l := v.sh) (by omega)
  obtain ⟨N, hN⟩ : ∃ N : Nat, prodW v.sh = N := ⟨(prodW v.sh).toNat, by omega⟩
  have hO : offF v = (List.range N).map fun k : Nat => offW v (unrF v.sh (k : Int)) v.sh.length := by unfold offF; rw [hN, Int.toNat_natCast]
  rw [hN] at q1
  repeat' (first | with_reducible first | refine kI (by kernel_rfl) ?_ | refine kN (by kernel_rfl) ?_ | (first | refine kB1 ?_ ?_ | refine kB2 ?_ ?_) <;> intro hp | (first | refine kD1 ?_ ?_ | refine kD2 ?_ ?_ | refine kS1 ?_ ?_ | refine kS2 ?_ ?_) <;> intro hp <;> try simp only [hp] | simp -implicitDefEqProofs (disch := omega) only [go_sem, Nat.reduceAdd, Nat.reduceSub, reduceCtorEq, Nat.reduceLT, Nat.reduceLeDiff, Nat.reduceEqDiff, Nat.reduceMul, Int.reduceToNat, ↓reduceIte, List.take_of_length_le, if_pos, if_neg, List.getElem?_set_self, List.set_set, cnE, cnV, Try.ntmps62, Try.results62,  hc, q1])
  refine LoopQ.mix (fun t0 L0 nn ss => ∃ (k : Nat) (q : List Int) (_ : Unit), (∃ x : Nat → AV, ss = ⟨mixL 0 (.k :: .k :: .k :: .v (.sl 1 k 0 k k) :: .v (i64 (k : Nat)) :: .k :: .s :: .s :: .s :: .s :: .s :: .s :: .s :: .s :: .s :: .s :: .s :: .s :: .s :: .s :: .s :: .s :: .k :: []) t0 x, [⟨3, [.agg [i64 v.b, ints 0 v.sh, ints 0 v.st]]⟩, ⟨1, q.map fun n => .int .i64 n⟩]⟩) ∧ (k ≤ N) ∧ (q.length = k) ∧ (q = (List.range k).map fun k : Nat => offW v (unrF v.sh (k : Int)) v.sh.length) ∧ nn = N - k) ?_ ?_
  · exact ⟨_, ⟨0, [], (), mixJ rfl (rfl), Nat.zero_le _, rfl, rfl, rfl⟩⟩
  · rintro I0 hI0 n ss ⟨k, q, _, ⟨y, rfl⟩, m1, m2, m3, rfl⟩
    by_cases hk : k < N
    · have hki : (k : Int) < (N : Int) := by omega
      have q2 : gUnrank v.sh (k : Int) = some (unrF v.sh (k : Int)) := gUnrank_eq ⟨by omega, ⟨by omega, by omega⟩, shape_pos h1 (k := k) (by omega)⟩
      have hul := unrF_len v.sh (k : Int)
      have q3 := gOffset_eq (v := v) (x := unrF v.sh (k : Int)) ⟨by omega, by omega⟩
      rw [hul] at q3
      have hsn := offs_snoc v k
      rw [← m3] at hsn
      repeat' (first | with_reducible first | refine kI (by kernel_rfl) ?_ | refine kN (by kernel_rfl) ?_ | (first | refine kB1 ?_ ?_ | refine kB2 ?_ ?_) <;> intro hp | (first | refine kD1 ?_ ?_ | refine kD2 ?_ ?_ | refine kS1 ?_ ?_ | refine kS2 ?_ ?_) <;> intro hp <;> try simp only [hp] | simp -implicitDefEqProofs (disch := omega) only [go_sem, Nat.reduceAdd, Nat.reduceSub, reduceCtorEq, Nat.reduceLT, Nat.reduceLeDiff, Nat.reduceEqDiff, Nat.reduceMul, Int.reduceToNat, ↓reduceIte, List.take_of_length_le, if_pos, if_neg, List.getElem?_set_self, List.set_set, cnE, cnV, Try.ntmps62, Try.results62,  hc, q1, hki, hu, q2, ho, q3])
      exact ⟨N - (k + 1), by omega, hI0 _ _ ⟨k + 1, _, (), mixI rfl, hk, by simp [m2], hsn, rfl⟩⟩
    · obtain rfl : k = N := by omega
      have hql : (offF v).length = k := by rw [hO, ← m3, m2]
      rw [← hO] at m3
      subst m3
      repeat' (first | with_reducible first | refine kI (by kernel_rfl) ?_ | refine kN (by kernel_rfl) ?_ | (first | refine kB1 ?_ ?_ | refine kB2 ?_ ?_) <;> intro hp | (first | refine kD1 ?_ ?_ | refine kD2 ?_ ?_ | refine kS1 ?_ ?_ | refine kS2 ?_ ?_) <;> intro hp <;> try simp only [hp] | simp -implicitDefEqProofs (disch := omega) only [go_sem, Nat.reduceAdd, Nat.reduceSub, reduceCtorEq, Nat.reduceLT, Nat.reduceLeDiff, Nat.reduceEqDiff, Nat.reduceMul, Int.reduceToNat, ↓reduceIte, List.take_of_length_le, if_pos, if_neg, List.getElem?_set_self, List.set_set, cnE, cnV, Try.ntmps62, Try.results62,  hc, q1])
      rw [← hql]
      exact ⟨[1], by simp, by simp, fun _ => rfl, fun _ => by simp only [List.map, List.getD_cons_succ, List.getD_cons_zero, renB_ints]⟩
set_option maxHeartbeats 4000000 in
set_option maxRecDepth 100000 in
theorem o_offsetsI {Sg : FuncId → Option (List AV → Option AV)} (hS : Sound Try.prog Sg) (hc : Sg 97 = some (F1 gCountOf)) (hu : Sg 98 = some (F2 gUnrank)) (ho : Sg 100 = some (F2 gOffset)) (v : Vi) (h1 : shapeOK v.sh = true) (h2 : v.st.length = v.sh.length) : OSpec Try.prog 53 [.agg [i64 v.b, ints 0 v.sh, ints 0 v.st]] (fun n => .sl n (offF v).length 0 (offF v).length (offF v).length) (fun _ => [⟨1, (offF v).map fun n => .int .i64 n⟩]) := by
  refine OSpec.intro Try.func53 rfl (vc3_sound Try.pf hS hS _ _ _ ?_)
  obtain ⟨s1, s2, s3, s4, s5⟩ := shape_facts h1
  have q1 := gCountOf_eq (l := v.sh) (by omega)
  obtain ⟨N, hN⟩ : ∃ N : Nat, prodW v.sh = N := ⟨(prodW v.sh).toNat, by omega⟩
  have hO : offF v = (List.range N).map fun k : Nat => offW v (unrF v.sh (k : Int)) v.sh.length := by unfold offF; rw [hN, Int.toNat_natCast]
  rw [hN] at q1
  repeat' (first | with_reducible first | refine kI (by kernel_rfl) ?_ | refine kN (by kernel_rfl) ?_ | (first | refine kB1 ?_ ?_ | refine kB2 ?_ ?_) <;> intro hp | (first | refine kD1 ?_ ?_ | refine kD2 ?_ ?_ | refine kS1 ?_ ?_ | refine kS2 ?_ ?_) <;> intro hp <;> try simp only [hp] | simp -implicitDefEqProofs (disch := omega) only [go_sem, Nat.reduceAdd, Nat.reduceSub, reduceCtorEq, Nat.reduceLT, Nat.reduceLeDiff, Nat.reduceEqDiff, Nat.reduceMul, Int.reduceToNat, ↓reduceIte, List.take_of_length_le, if_pos, if_neg, List.getElem?_set_self, List.set_set, cnE, cnV, Try.ntmps53, Try.results53,  hc, q1])
  refine LoopQ.mix (fun t0 L0 nn ss => ∃ (k : Nat) (q : List Int) (_ : Unit), (∃ x : Nat → AV, ss = ⟨mixL 0 (.k :: .k :: .k :: .v (.sl 1 k 0 k k) :: .s :: .k :: .k :: .k :: .k :: .v (i64 (k : Nat)) :: .s :: .s :: .s :: .s :: .s :: .s :: .s :: .s :: .s :: .s :: .s :: .s :: .k :: []) t0 x, [⟨3, [.agg [i64 v.b, ints 0 v.sh, ints 0 v.st]]⟩, ⟨1, q.map fun n => .int .i64 n⟩]⟩) ∧ (k ≤ N) ∧ (q.length = k) ∧ (q = (List.range k).map fun k : Nat => offW v (unrF v.sh (k : Int)) v.sh.length) ∧ nn = N - k) ?_ ?_
  · exact ⟨_, ⟨0, [], (), mixJ rfl (rfl), Nat.zero_le _, rfl, rfl, rfl⟩⟩
  · rintro I0 hI0 n ss ⟨k, q, _, ⟨y, rfl⟩, m1, m2, m3, rfl⟩
    by_cases hk : k < N
    · have hki : (k : Int) < (N : Int) := by omega
      have q2 : gUnrank v.sh (k : Int) = some (unrF v.sh (k : Int)) := gUnrank_eq ⟨by omega, ⟨by omega, by omega⟩, shape_pos h1 (k := k) (by omega)⟩
      have hul := unrF_len v.sh (k : Int)
      have q3 := gOffset_eq (v := v) (x := unrF v.sh (k : Int)) ⟨by omega, by omega⟩
      rw [hul] at q3
      have hsn := offs_snoc v k
      rw [← m3] at hsn
      repeat' (first | with_reducible first | refine kI (by kernel_rfl) ?_ | refine kN (by kernel_rfl) ?_ | (first | refine kB1 ?_ ?_ | refine kB2 ?_ ?_) <;> intro hp | (first | refine kD1 ?_ ?_ | refine kD2 ?_ ?_ | refine kS1 ?_ ?_ | refine kS2 ?_ ?_) <;> intro hp <;> try simp only [hp] | simp -implicitDefEqProofs (disch := omega) only [go_sem, Nat.reduceAdd, Nat.reduceSub, reduceCtorEq, Nat.reduceLT, Nat.reduceLeDiff, Nat.reduceEqDiff, Nat.reduceMul, Int.reduceToNat, ↓reduceIte, List.take_of_length_le, if_pos, if_neg, List.getElem?_set_self, List.set_set, cnE, cnV, Try.ntmps53, Try.results53,  hc, q1, hki, hu, q2, ho, q3])
      exact ⟨N - (k + 1), by omega, hI0 _ _ ⟨k + 1, _, (), mixI rfl, hk, by simp [m2], hsn, rfl⟩⟩
    · obtain rfl : k = N := by omega
      have hql : (offF v).length = k := by rw [hO, ← m3, m2]
      rw [← hO] at m3
      subst m3
      repeat' (first | with_reducible first | refine kI (by kernel_rfl) ?_ | refine kN (by kernel_rfl) ?_ | (first | refine kB1 ?_ ?_ | refine kB2 ?_ ?_) <;> intro hp | (first | refine kD1 ?_ ?_ | refine kD2 ?_ ?_ | refine kS1 ?_ ?_ | refine kS2 ?_ ?_) <;> intro hp <;> try simp only [hp] | simp -implicitDefEqProofs (disch := omega) only [go_sem, Nat.reduceAdd, Nat.reduceSub, reduceCtorEq, Nat.reduceLT, Nat.reduceLeDiff, Nat.reduceEqDiff, Nat.reduceMul, Int.reduceToNat, ↓reduceIte, List.take_of_length_le, if_pos, if_neg, List.getElem?_set_self, List.set_set, cnE, cnV, Try.ntmps53, Try.results53,  hc, q1])
      rw [← hql]
      exact ⟨[1], by simp, by simp, fun _ => rfl, fun _ => by simp only [List.map, List.getD_cons_succ, List.getD_cons_zero, renB_ints]⟩
end Go.Proofs.Ytgpflkmelindfaa
