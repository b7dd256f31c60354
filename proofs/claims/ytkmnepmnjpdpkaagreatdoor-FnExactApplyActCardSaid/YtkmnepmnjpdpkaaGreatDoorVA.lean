/- Contracts of functions on views and memories that the laws of this seat call. -/
import Derived.Test.YtkmnepmnjpdpkaaGreatDoorGb
set_option linter.all false
namespace Go.Proofs.YtkmnepmnjpdpkaaGreatDoor
open Go Go.Ev Go.RowKit Go.Ev.Enc Go.Pl

structure Vi where
  b : Int
  sh : List Int
  st : List Int
  deriving DecidableEq
instance : Enc Vi where
  enc t x := .agg [.int .i64 x.b, ints t x.sh, ints t x.st]
  dec | .agg [z, x, y] => (dec z).bind fun n => (dec x).bind fun a => (dec y).map fun b => ⟨n, a, b⟩
      | _ => none
  ok x a := by
    constructor
    · intro h
      split at h
      · simp only [Option.bind_eq_some_iff, Option.map_eq_some_iff] at h
        obtain ⟨n, hn, p, hp, q, hq, rfl⟩ := h
        rw [(ok _ _).1 hn, (ok _ _).1 hp, (ok _ _).1 hq]; rfl
      · simp at h
    · rintro rfl
      show ((dec (enc 0 a.b)).bind fun n => (dec (enc 0 a.sh)).bind fun p => (dec (enc 0 a.st)).map fun q => (⟨n, p, q⟩ : Vi)) = some a
      rw [(ok _ a.b).2 rfl, (ok _ a.sh).2 rfl, (ok _ a.st).2 rfl]; rfl
  own a := .agg _ (by
    intro x hx
    simp only [List.mem_cons, List.not_mem_nil, or_false] at hx
    rcases hx with rfl | rfl | rfl
    · exact own a.b
    · exact own a.sh
    · exact own a.st)
theorem enc_vi (t : Nat) (x : Vi) : (enc t x : AV) = .agg [.int .i64 x.b, ints t x.sh, ints t x.st] := rfl
theorem enc_vis (t : Nat) (l : List Vi) : (enc t l : AV) = .ds t (l.map fun x => .agg [.int .i64 x.b, ints t x.sh, ints t x.st]) := rfl
theorem dec_vi (n : Int) (a b : List Int) : (dec (.agg [.int .i64 n, .ds 0 (a.map fun n => .int .i64 n), .ds 0 (b.map fun n => .int .i64 n)]) : Option Vi) = some ⟨n, a, b⟩ := (ok _ _).2 rfl
theorem dec_vi0 (n : Int) : (dec (.agg [.int .i64 n, .ds 0 [], .ds 0 []]) : Option Vi) = some ⟨n, [], []⟩ := (ok _ _).2 rfl
theorem dec_vis (l : List Vi) : (dec (.ds 0 (l.map fun x => .agg [.int .i64 x.b, ints 0 x.sh, ints 0 x.st])) : Option (List Vi)) = some l := (ok _ _).2 rfl
theorem ee_vis (t t' : Nat) (L : List Blk) (l : List Vi) : expE (expC t L) (.ds t' (l.map fun x => .agg [.int .i64 x.b, ints t' x.sh, ints t' x.st])) = .ds (min t' t) (l.map fun x => .agg [.int .i64 x.b, ints (min t' t) x.sh, ints (min t' t) x.st]) := by
  simp [expE, expC, stepC, Function.comp_def]
theorem getD_vis {t : Nat} {l : List Vi} {k : Nat} (h : k < l.length) : (l.map fun x => AV.agg [.int .i64 x.b, ints t x.sh, ints t x.st]).getD k .any = .agg [.int .i64 (l.getD k ⟨0, [], []⟩).b, ints t (l.getD k ⟨0, [], []⟩).sh, ints t (l.getD k ⟨0, [], []⟩).st] := by simp [h]
theorem vi_eta (x : Vi) : (⟨x.b, x.sh, x.st⟩ : Vi) = x := rfl
theorem gcV_vis (n : Nat) (L : List Blk) (t : Nat) (l : List Vi) : gcV n L (.ds t (l.map fun x => .agg [.int .i64 x.b, ints t x.sh, ints t x.st])) = .ds t (l.map fun x => .agg [.int .i64 x.b, ints t x.sh, ints t x.st]) := by
  simp [gcV, expE, gcC, gcStep, Function.comp_def]
theorem expS_vis (t t' : Nat) (L : List Blk) (e ver off len : Nat) (q : List Vi) : expS t L ver off len (some ⟨e, q.map fun x => .agg [.int .i64 x.b, ints t' x.sh, ints t' x.st]⟩) = if q.length = ver ∧ off + len ≤ ver then .ds t (((q.drop off).take len).map fun x => .agg [.int .i64 x.b, ints (min t' t) x.sh, ints (min t' t) x.st]) else .any := by
  simp [expS, expE, stepC, Function.comp_def]
attribute [go_sem] expS_vis gcV_vis enc_vi enc_vis dec_vi dec_vi0 dec_vis ee_vis vi_eta

def cnV := And.intro @evApp_z0 (And.intro @evApp_z1 (And.intro @evApp_z2 (And.intro @evApp_z3 (And.intro @getD_tsrs (And.intro @fillA_len (And.intro @fillA_at (And.intro @fillA_full (And.intro @evApp_i6 @getD_vis))))))))
def offW (v : Vi) (x : List Int) : Nat → Int
  | 0 => v.b
  | m + 1 => IntKind.i64.wrap (offW v x m + IntKind.i64.wrap (x.getD m 0 * v.st.getD m 0))
def offF (v : Vi) : List Int := (List.range (prodW v.sh).toNat).map fun k : Nat => offW v (unrF v.sh (k : Int)) v.sh.length
def viewOK (v : Vi) : Bool := shapeOK v.sh && (decide (v.st.length = v.sh.length) && (v.st.all (fun n => inR n (-60) 60) && (inR v.b 0 60 && (offF v).all fun n => inR n 0 59)))
def viB (v : Vi) : Prop := v.sh.length < 4294967296 ∧ v.st.length < 4294967296
instance (v : Vi) : Decidable (viB v) := by unfold viB; infer_instance
def gOffset (v : Vi) (x : List Int) : Option Int := gd (x.length ≤ v.st.length ∧ v.st.length < 4294967296) (offW v x x.length)
theorem gOffset_eq {v : Vi} {x : List Int} (h : x.length ≤ v.st.length ∧ v.st.length < 4294967296) : gOffset v x = some (offW v x x.length) := gd_eq h
def gOffsets (v : Vi) : Option (List Int) := gd (shapeOK v.sh = true ∧ v.st.length = v.sh.length) (offF v)
theorem gOffsets_eq {v : Vi} (h : shapeOK v.sh = true ∧ v.st.length = v.sh.length) : gOffsets v = some (offF v) := gd_eq h
def gValidV (v : Vi) : Option Bool := gd (viB v) (viewOK v)
theorem gValidV_eq {v : Vi} (h : viB v) : gValidV v = some (viewOK v) := gd_eq h
theorem offs_snoc (v : Vi) (n : Nat) : ((List.range n).map fun k : Nat => offW v (unrF v.sh (k : Int)) v.sh.length) ++ [offW v (unrF v.sh (n : Int)) v.sh.length] = (List.range (n + 1)).map fun k : Nat => offW v (unrF v.sh (k : Int)) v.sh.length := by
  rw [List.range_succ, List.map_append]; rfl
theorem shape_facts {s : List Int} (h : shapeOK s = true) : s.length ≤ 4 ∧ inE s ∧ prodW s = prE s ∧ 0 ≤ prodW s ∧ prodW s ≤ 60 := by
  unfold shapeOK at h
  simp only [Bool.and_eq_true, decide_eq_true_eq, List.all_eq_true] at h
  have h1 : inE s := fun x hx => by have := h.1.2 x hx; unfold inExt at this; simpa using this
  have h2 := prodW_eq h1 (by omega)
  have h3 := prE_nn h1
  exact ⟨h.1.1, h1, h2, by omega, h.2⟩
theorem shape_pos {s : List Int} (h : shapeOK s = true) {k : Nat} (hk : k < (prodW s).toNat) : ∀ i, i < s.length → 1 ≤ s.getD i 0 := fun i hi => by
  obtain ⟨h1, h2, h3, h4, h5⟩ := shape_facts h
  exact prE_pos h2 (by omega) _ (gmem hi)
theorem offF_len (v : Vi) : (offF v).length = (prodW v.sh).toNat := by simp [offF]
set_option maxHeartbeats 2000000 in
set_option maxRecDepth 100000 in
theorem spec_indexAt {Sg : FuncId → Option (List AV → Option AV)} (hS : Sound Tryz.prog Sg) : ∀ a r, F2 gUnrank a = some r → CSpec Tryz.prog 152 a r := by
  refine spec2 Tryz.func152 rfl Tryz.pf hS ?_
  intro s k r hr
  obtain ⟨⟨h1, ⟨h2, h2'⟩, h3⟩, rfl⟩ := gd_some hr
  have hall : ∀ m, ∀ d ∈ s.reverse.take m, 1 ≤ d := fun m d hd => by
    have := List.mem_of_mem_take hd
    rw [List.mem_reverse] at this
    obtain ⟨i, hi, rfl⟩ := List.mem_iff_getElem.1 this
    have := h3 i hi
    simpa [hi] using this
  have hul := unrF_len s k
  repeat' (first | with_reducible first | refine kI (by kernel_rfl) ?_ | refine kN (by kernel_rfl) ?_ | simp -implicitDefEqProofs (disch := omega) only [go_sem, Nat.reduceAdd, Nat.reduceSub, reduceCtorEq, Nat.reduceLT, Nat.reduceLeDiff, Nat.reduceEqDiff, ↓reduceIte, List.take_of_length_le, if_pos, if_neg, cnE, cnV, Tryz.ntmps152, Tryz.results152])
  refine LoopQ.mix (fun t0 L0 nn ss => ∃ (m : Nat) (c : Int) (_ : Unit), (∃ x : Nat → AV, ss = ⟨mixL 0 (.k :: .v (i64 c) :: .k :: .k :: .k :: .k :: .v (i64 ((m : Nat) - 1)) :: .k :: .k :: .k :: .k :: .k :: .k :: .s :: .s :: .s :: .s :: .s :: .s :: .s :: .s :: .s :: .s :: .s :: .s :: .s :: .s :: .s :: .s :: .s :: .s :: .s :: .k :: []) t0 x, [⟨1, (fromEnd (unrF s k) m).map fun n => .int .i64 n⟩]⟩) ∧ (m ≤ s.length) ∧ (c = divR (s.reverse.take (s.length - m)) k) ∧ nn = m + 1) ?_ ?_
  · exact ⟨_, ⟨s.length, k, (), mixJ rfl (by rw [fromEnd, List.drop_of_length_le (by omega), List.append_nil]), Nat.le_refl _, by rw [Nat.sub_self]; rfl, rfl⟩⟩
  · rintro I0 hI0 n ss ⟨m, c, _, ⟨x, rfl⟩, g1, g2, rfl⟩
    have hc := divR_nn (s.reverse.take (s.length - m)) k (hall _) h2
    rw [← g2] at hc
    match m, g1 with
    | 0, _ =>
      have h0 : fromEnd (unrF s k) 0 = unrF s k := by simp [fromEnd]
      rw [h0]
      repeat' (first | with_reducible first | refine kI (by kernel_rfl) ?_ | refine kN (by kernel_rfl) ?_ | simp -implicitDefEqProofs (disch := omega) only [go_sem, Nat.reduceAdd, Nat.reduceSub, reduceCtorEq, Nat.reduceLT, Nat.reduceLeDiff, Nat.reduceEqDiff, ↓reduceIte, List.take_of_length_le, if_pos, if_neg, cnE, cnV, Tryz.ntmps152, Tryz.results152])
    | m + 1, hm =>
      have h4 := h3 m hm
      have ht := fromEnd_len (l := unrF s k) (m := m + 1) (by omega)
      have hs := fromEnd_set (l := unrF s k) (m := m) (by omega)
      have hv := unrF_at (k := k) hm
      rw [← g2] at hv
      rw [hv] at hs
      have hd : divR (s.reverse.take (s.length - m)) k = c.tdiv (s.getD m 0) := by rw [rev_drop hm, divR_app, ← g2]; rfl
      have h5 : 0 ≤ c.tdiv (s.getD m 0) := Int.tdiv_nonneg hc.1 (by omega)
      have h6 : c.tdiv (s.getD m 0) ≤ c := by rw [Int.tdiv_eq_ediv_of_nonneg hc.1]; exact Int.ediv_le_self _ hc.1
      have e1 : (((m + 1 : Nat) : Int) - 1) = (m : Int) := by omega
      rw [e1]
      have h7 : ¬ s.getD m 0 = 0 := by omega
      repeat' (first | with_reducible first | refine kI (by kernel_rfl) ?_ | refine kN (by kernel_rfl) ?_ | simp -implicitDefEqProofs (disch := omega) only [go_sem, Nat.reduceAdd, Nat.reduceSub, reduceCtorEq, Nat.reduceLT, Nat.reduceLeDiff, Nat.reduceEqDiff, ↓reduceIte, List.take_of_length_le, if_pos, if_neg, cnE, cnV, Tryz.ntmps152, Tryz.results152,  hs, ht, set_ints])
      exact ⟨m + 1, by omega, hI0 _ _ ⟨m, _, (), mixI rfl, by omega, hd.symm, rfl⟩⟩
set_option maxHeartbeats 4000000 in
set_option maxRecDepth 100000 in
theorem spec_offsetS {Sg : FuncId → Option (List AV → Option AV)} (hS : Sound Tryz.prog Sg) : ∀ a r, F2 gOffset a = some r → CSpec Tryz.prog 173 a r := by
  refine F2_spec ?_
  intro v ix r hr
  obtain ⟨⟨h1, h2⟩, rfl⟩ := gd_some hr
  refine CSpec.intro Tryz.func173 rfl (own _) (vc3_sound Tryz.pf hS hS _ _ _ ?_)
  repeat' (first | with_reducible first | refine kI (by kernel_rfl) ?_ | refine kN (by kernel_rfl) ?_ | simp -implicitDefEqProofs (disch := omega) only [go_sem, Nat.reduceAdd, Nat.reduceSub, reduceCtorEq, Nat.reduceLT, Nat.reduceLeDiff, Nat.reduceEqDiff, ↓reduceIte, List.take_of_length_le, if_pos, if_neg, cnE, cnV, Tryz.ntmps173, Tryz.results173])
  refine LoopQ.mix (fun t0 L0 nn ss => ∃ (m : Nat) (_ : Unit), (∃ x : Nat → AV, ss = ⟨mixL 0 (.k :: .k :: .k :: .k :: .k :: .v (i64 (offW v ix m)) :: .v (i64 (m : Nat)) :: .k :: .k :: .s :: .s :: .s :: .s :: .s :: .s :: .s :: .s :: .s :: .s :: .s :: .s :: .s :: .s :: .s :: .s :: .s :: .s :: .k :: []) t0 x, L0⟩) ∧ (m ≤ ix.length) ∧ nn = ix.length - m) ?_ ?_
  · exact ⟨_, ⟨0, (), mixI rfl, Nat.zero_le _, rfl⟩⟩
  · rintro I0 hI0 n ss ⟨m, _, ⟨y, rfl⟩, m1, rfl⟩
    by_cases hm : m < ix.length
    · have hms : m < v.st.length := by omega
      have hw : IntKind.i64.wrap (offW v ix m + IntKind.i64.wrap (ix.getD m 0 * v.st.getD m 0)) = offW v ix (m + 1) := rfl
      repeat' (first | with_reducible first | refine kI (by kernel_rfl) ?_ | refine kN (by kernel_rfl) ?_ | simp -implicitDefEqProofs (disch := omega) only [go_sem, Nat.reduceAdd, Nat.reduceSub, reduceCtorEq, Nat.reduceLT, Nat.reduceLeDiff, Nat.reduceEqDiff, ↓reduceIte, List.take_of_length_le, if_pos, if_neg, cnE, cnV, Tryz.ntmps173, Tryz.results173,  hw])
      exact ⟨ix.length - (m + 1), by omega, hI0 _ _ ⟨m + 1, (), mixI rfl, hm, rfl⟩⟩
    · obtain rfl : m = ix.length := by omega
      repeat' (first | with_reducible first | refine kI (by kernel_rfl) ?_ | refine kN (by kernel_rfl) ?_ | simp -implicitDefEqProofs (disch := omega) only [go_sem, Nat.reduceAdd, Nat.reduceSub, reduceCtorEq, Nat.reduceLT, Nat.reduceLeDiff, Nat.reduceEqDiff, ↓reduceIte, List.take_of_length_le, if_pos, if_neg, cnE, cnV, Tryz.ntmps173, Tryz.results173])
set_option maxHeartbeats 4000000 in
set_option maxRecDepth 100000 in
theorem spec_offsetI {Sg : FuncId → Option (List AV → Option AV)} (hS : Sound Tryz.prog Sg) : ∀ a r, F2 gOffset a = some r → CSpec Tryz.prog 151 a r := by
  refine F2_spec ?_
  intro v ix r hr
  obtain ⟨⟨h1, h2⟩, rfl⟩ := gd_some hr
  refine CSpec.intro Tryz.func151 rfl (own _) (vc3_sound Tryz.pf hS hS _ _ _ ?_)
  repeat' (first | with_reducible first | refine kI (by kernel_rfl) ?_ | refine kN (by kernel_rfl) ?_ | simp -implicitDefEqProofs (disch := omega) only [go_sem, Nat.reduceAdd, Nat.reduceSub, reduceCtorEq, Nat.reduceLT, Nat.reduceLeDiff, Nat.reduceEqDiff, ↓reduceIte, List.take_of_length_le, if_pos, if_neg, cnE, cnV, Tryz.ntmps151, Tryz.results151])
  refine LoopQ.mix (fun t0 L0 nn ss => ∃ (m : Nat) (_ : Unit), (∃ x : Nat → AV, ss = ⟨mixL 0 (.k :: .k :: .k :: .k :: .k :: .v (i64 (offW v ix m)) :: .s :: .s :: .k :: .k :: .k :: .k :: .v (i64 (m : Nat)) :: .s :: .s :: .s :: .s :: .s :: .s :: .s :: .s :: .s :: .s :: .s :: .s :: .s :: .s :: .k :: []) t0 x, L0⟩) ∧ (m ≤ ix.length) ∧ nn = ix.length - m) ?_ ?_
  · exact ⟨_, ⟨0, (), mixI rfl, Nat.zero_le _, rfl⟩⟩
  · rintro I0 hI0 n ss ⟨m, _, ⟨y, rfl⟩, m1, rfl⟩
    by_cases hm : m < ix.length
    · have hms : m < v.st.length := by omega
      have hw : IntKind.i64.wrap (offW v ix m + IntKind.i64.wrap (ix.getD m 0 * v.st.getD m 0)) = offW v ix (m + 1) := rfl
      repeat' (first | with_reducible first | refine kI (by kernel_rfl) ?_ | refine kN (by kernel_rfl) ?_ | simp -implicitDefEqProofs (disch := omega) only [go_sem, Nat.reduceAdd, Nat.reduceSub, reduceCtorEq, Nat.reduceLT, Nat.reduceLeDiff, Nat.reduceEqDiff, ↓reduceIte, List.take_of_length_le, if_pos, if_neg, cnE, cnV, Tryz.ntmps151, Tryz.results151,  hw])
      exact ⟨ix.length - (m + 1), by omega, hI0 _ _ ⟨m + 1, (), mixI rfl, hm, rfl⟩⟩
    · obtain rfl : m = ix.length := by omega
      repeat' (first | with_reducible first | refine kI (by kernel_rfl) ?_ | refine kN (by kernel_rfl) ?_ | simp -implicitDefEqProofs (disch := omega) only [go_sem, Nat.reduceAdd, Nat.reduceSub, reduceCtorEq, Nat.reduceLT, Nat.reduceLeDiff, Nat.reduceEqDiff, ↓reduceIte, List.take_of_length_le, if_pos, if_neg, cnE, cnV, Tryz.ntmps151, Tryz.results151])
set_option maxHeartbeats 4000000 in
set_option maxRecDepth 100000 in
theorem o_offsetsS {Sg : FuncId → Option (List AV → Option AV)} (hS : Sound Tryz.prog Sg) (hc : Sg 172 = some (F1 gCount)) (hu : Sg 174 = some (F2 gUnrank)) (ho : Sg 173 = some (F2 gOffset)) (v : Vi) (h1 : shapeOK v.sh = true) (h2 : v.st.length = v.sh.length) : OSpec Tryz.prog 143 [.agg [i64 v.b, ints 0 v.sh, ints 0 v.st]] (fun n => .sl n (offF v).length 0 (offF v).length (offF v).length) (fun _ => [⟨1, (offF v).map fun n => .int .i64 n⟩]) := by
  refine OSpec.intro Tryz.func143 rfl (vc3_sound Tryz.pf hS hS _ _ _ ?_)
  obtain ⟨s1, s2, s3, s4, s5⟩ := shape_facts h1
  have q1 := gCount_eq (l := v.sh) (by omega)
  obtain ⟨N, hN⟩ : ∃ N : Nat, prodW v.sh = N := ⟨(prodW v.sh).toNat, by omega⟩
  have hO : offF v = (List.range N).map fun k : Nat => offW v (unrF v.sh (k : Int)) v.sh.length := by unfold offF; rw [hN, Int.toNat_natCast]
  rw [hN] at q1
  repeat' (first | with_reducible first | refine kI (by kernel_rfl) ?_ | refine kN (by kernel_rfl) ?_ | simp -implicitDefEqProofs (disch := omega) only [go_sem, Nat.reduceAdd, Nat.reduceSub, reduceCtorEq, Nat.reduceLT, Nat.reduceLeDiff, Nat.reduceEqDiff, ↓reduceIte, List.take_of_length_le, if_pos, if_neg, cnE, cnV, Tryz.ntmps143, Tryz.results143,  hc, q1])
  refine LoopQ.mix (fun t0 L0 nn ss => ∃ (k : Nat) (q : List Int) (_ : Unit), (∃ x : Nat → AV, ss = ⟨mixL 0 (.k :: .k :: .k :: .v (.sl 1 k 0 k k) :: .v (i64 (k : Nat)) :: .k :: .s :: .s :: .s :: .s :: .s :: .s :: .s :: .s :: .s :: .s :: .s :: .s :: .s :: .s :: .s :: .s :: .k :: []) t0 x, [⟨3, [.agg [i64 v.b, ints 0 v.sh, ints 0 v.st]]⟩, ⟨1, q.map fun n => .int .i64 n⟩]⟩) ∧ (k ≤ N) ∧ (q.length = k) ∧ (q = (List.range k).map fun k : Nat => offW v (unrF v.sh (k : Int)) v.sh.length) ∧ nn = N - k) ?_ ?_
  · exact ⟨_, ⟨0, [], (), mixJ rfl (rfl), Nat.zero_le _, rfl, rfl, rfl⟩⟩
  · rintro I0 hI0 n ss ⟨k, q, _, ⟨y, rfl⟩, m1, m2, m3, rfl⟩
    by_cases hk : k < N
    · have hki : (k : Int) < (N : Int) := by omega
      have q2 : gUnrank v.sh (k : Int) = some (unrF v.sh (k : Int)) := gUnrank_eq ⟨by omega, ⟨by omega, by omega⟩, shape_pos h1 (k := k) (by omega)⟩
      have hul := unrF_len v.sh (k : Int)
      have q3 := gOffset_eq (v := v) (x := unrF v.sh (k : Int)) ⟨by omega, by omega⟩
      rw [hul] at q3
      have hsn := offs_snoc v k
      rw [← m3] at hsn
      repeat' (first | with_reducible first | refine kI (by kernel_rfl) ?_ | refine kN (by kernel_rfl) ?_ | simp -implicitDefEqProofs (disch := omega) only [go_sem, Nat.reduceAdd, Nat.reduceSub, reduceCtorEq, Nat.reduceLT, Nat.reduceLeDiff, Nat.reduceEqDiff, ↓reduceIte, List.take_of_length_le, if_pos, if_neg, cnE, cnV, Tryz.ntmps143, Tryz.results143,  hc, q1, hki, hu, q2, ho, q3])
      exact ⟨N - (k + 1), by omega, hI0 _ _ ⟨k + 1, _, (), mixI rfl, hk, by simp [m2], hsn, rfl⟩⟩
    · obtain rfl : k = N := by omega
      have hql : (offF v).length = k := by rw [hO, ← m3, m2]
      rw [← hO] at m3
      subst m3
      repeat' (first | with_reducible first | refine kI (by kernel_rfl) ?_ | refine kN (by kernel_rfl) ?_ | simp -implicitDefEqProofs (disch := omega) only [go_sem, Nat.reduceAdd, Nat.reduceSub, reduceCtorEq, Nat.reduceLT, Nat.reduceLeDiff, Nat.reduceEqDiff, ↓reduceIte, List.take_of_length_le, if_pos, if_neg, cnE, cnV, Tryz.ntmps143, Tryz.results143,  hc, q1])
      rw [← hql]
      exact ⟨[1], by simp, by simp, fun _ => rfl, fun _ => by simp only [List.map, List.getD_cons_succ, List.getD_cons_zero, renB_ints]⟩
set_option maxHeartbeats 4000000 in
set_option maxRecDepth 100000 in
theorem o_offsetsI {Sg : FuncId → Option (List AV → Option AV)} (hS : Sound Tryz.prog Sg) (hc : Sg 150 = some (F1 gCountOf)) (hu : Sg 152 = some (F2 gUnrank)) (ho : Sg 151 = some (F2 gOffset)) (v : Vi) (h1 : shapeOK v.sh = true) (h2 : v.st.length = v.sh.length) : OSpec Tryz.prog 116 [.agg [i64 v.b, ints 0 v.sh, ints 0 v.st]] (fun n => .sl n (offF v).length 0 (offF v).length (offF v).length) (fun _ => [⟨1, (offF v).map fun n => .int .i64 n⟩]) := by
  refine OSpec.intro Tryz.func116 rfl (vc3_sound Tryz.pf hS hS _ _ _ ?_)
  obtain ⟨s1, s2, s3, s4, s5⟩ := shape_facts h1
  have q1 := gCountOf_eq (l := v.sh) (by omega)
  obtain ⟨N, hN⟩ : ∃ N : Nat, prodW v.sh = N := ⟨(prodW v.sh).toNat, by omega⟩
  have hO : offF v = (List.range N).map fun k : Nat => offW v (unrF v.sh (k : Int)) v.sh.length := by unfold offF; rw [hN, Int.toNat_natCast]
  rw [hN] at q1
  repeat' (first | with_reducible first | refine kI (by kernel_rfl) ?_ | refine kN (by kernel_rfl) ?_ | simp -implicitDefEqProofs (disch := omega) only [go_sem, Nat.reduceAdd, Nat.reduceSub, reduceCtorEq, Nat.reduceLT, Nat.reduceLeDiff, Nat.reduceEqDiff, ↓reduceIte, List.take_of_length_le, if_pos, if_neg, cnE, cnV, Tryz.ntmps116, Tryz.results116,  hc, q1])
  refine LoopQ.mix (fun t0 L0 nn ss => ∃ (k : Nat) (q : List Int) (_ : Unit), (∃ x : Nat → AV, ss = ⟨mixL 0 (.k :: .k :: .k :: .v (.sl 1 k 0 k k) :: .s :: .k :: .k :: .k :: .k :: .v (i64 (k : Nat)) :: .s :: .s :: .s :: .s :: .s :: .s :: .s :: .s :: .s :: .s :: .s :: .s :: .k :: []) t0 x, [⟨3, [.agg [i64 v.b, ints 0 v.sh, ints 0 v.st]]⟩, ⟨1, q.map fun n => .int .i64 n⟩]⟩) ∧ (k ≤ N) ∧ (q.length = k) ∧ (q = (List.range k).map fun k : Nat => offW v (unrF v.sh (k : Int)) v.sh.length) ∧ nn = N - k) ?_ ?_
  · exact ⟨_, ⟨0, [], (), mixJ rfl (rfl), Nat.zero_le _, rfl, rfl, rfl⟩⟩
  · rintro I0 hI0 n ss ⟨k, q, _, ⟨y, rfl⟩, m1, m2, m3, rfl⟩
    by_cases hk : k < N
    · have hki : (k : Int) < (N : Int) := by omega
      have q2 : gUnrank v.sh (k : Int) = some (unrF v.sh (k : Int)) := gUnrank_eq ⟨by omega, ⟨by omega, by omega⟩, shape_pos h1 (k := k) (by omega)⟩
      have hul := unrF_len v.sh (k : Int)
      have q3 := gOffset_eq (v := v) (x := unrF v.sh (k : Int)) ⟨by omega, by omega⟩
      rw [hul] at q3
      have hsn := offs_snoc v k
      rw [← m3] at hsn
      repeat' (first | with_reducible first | refine kI (by kernel_rfl) ?_ | refine kN (by kernel_rfl) ?_ | simp -implicitDefEqProofs (disch := omega) only [go_sem, Nat.reduceAdd, Nat.reduceSub, reduceCtorEq, Nat.reduceLT, Nat.reduceLeDiff, Nat.reduceEqDiff, ↓reduceIte, List.take_of_length_le, if_pos, if_neg, cnE, cnV, Tryz.ntmps116, Tryz.results116,  hc, q1, hki, hu, q2, ho, q3])
      exact ⟨N - (k + 1), by omega, hI0 _ _ ⟨k + 1, _, (), mixI rfl, hk, by simp [m2], hsn, rfl⟩⟩
    · obtain rfl : k = N := by omega
      have hql : (offF v).length = k := by rw [hO, ← m3, m2]
      rw [← hO] at m3
      subst m3
      repeat' (first | with_reducible first | refine kI (by kernel_rfl) ?_ | refine kN (by kernel_rfl) ?_ | simp -implicitDefEqProofs (disch := omega) only [go_sem, Nat.reduceAdd, Nat.reduceSub, reduceCtorEq, Nat.reduceLT, Nat.reduceLeDiff, Nat.reduceEqDiff, ↓reduceIte, List.take_of_length_le, if_pos, if_neg, cnE, cnV, Tryz.ntmps116, Tryz.results116,  hc, q1])
      rw [← hql]
      exact ⟨[1], by simp, by simp, fun _ => rfl, fun _ => by simp only [List.map, List.getD_cons_succ, List.getD_cons_zero, renB_ints]⟩
end Go.Proofs.YtkmnepmnjpdpkaaGreatDoor
namespace Go.Proofs.YtkmnepmnjpdpkaaGreatDoor
open Go Go.Ev Go.RowKit Go.Ev.Enc Go.Pl

theorem exp_ownI (q : List Int) (n : Nat) (h : q.length = n) : exp 1 [⟨1, q.map fun n => .int .i64 n⟩] (.sl 0 n 0 n n) = ints 1 q := by
  subst h
  simp [exp, expE, expC, stepC, ints, Function.comp_def, List.take_of_length_le]
theorem map_vi0 (v : Vi) : exp 0 [] (.agg [i64 v.b, ints 0 v.sh, ints 0 v.st]) = .agg [i64 v.b, ints 0 v.sh, ints 0 v.st] := by
  simp [exp, expE, expC, stepC, ints, Function.comp_def]
set_option maxHeartbeats 4000000 in
set_option maxRecDepth 100000 in
theorem spec_offsetsS {Sg : FuncId → Option (List AV → Option AV)} (hS : Sound Tryz.prog Sg) (hc : Sg 172 = some (F1 gCount)) (hu : Sg 174 = some (F2 gUnrank)) (ho : Sg 173 = some (F2 gOffset)) : ∀ a r, F1 gOffsets a = some r → CSpec Tryz.prog 143 a r := by
  refine F1_spec ?_
  intro v r hr
  obtain ⟨⟨h1, h2⟩, rfl⟩ := gd_some hr
  refine (o_offsetsS hS hc hu ho v h1 h2).cspec ?_ (own (offF v)) (exp_ownI _ _ rfl)
  show [_] = [_]
  rw [map_vi0]
set_option maxHeartbeats 4000000 in
set_option maxRecDepth 100000 in
theorem spec_offsetsI {Sg : FuncId → Option (List AV → Option AV)} (hS : Sound Tryz.prog Sg) (hc : Sg 150 = some (F1 gCountOf)) (hu : Sg 152 = some (F2 gUnrank)) (ho : Sg 151 = some (F2 gOffset)) : ∀ a r, F1 gOffsets a = some r → CSpec Tryz.prog 116 a r := by
  refine F1_spec ?_
  intro v r hr
  obtain ⟨⟨h1, h2⟩, rfl⟩ := gd_some hr
  refine (o_offsetsI hS hc hu ho v h1 h2).cspec ?_ (own (offF v)) (exp_ownI _ _ rfl)
  show [_] = [_]
  rw [map_vi0]
theorem viewOK_iff {v : Vi} : viewOK v = true ↔ shapeOK v.sh = true ∧ v.st.length = v.sh.length ∧ (∀ x ∈ v.st, -60 ≤ x ∧ x ≤ 60) ∧ (0 ≤ v.b ∧ v.b ≤ 60) ∧ ∀ x ∈ offF v, 0 ≤ x ∧ x < 60 := by
  unfold viewOK inR
  simp only [Bool.and_eq_true, decide_eq_true_eq, List.all_eq_true]
  constructor
  · rintro ⟨h1, h2, h3, h4, h5⟩
    exact ⟨h1, h2, h3, h4, fun x hx => by have := h5 x hx; omega⟩
  · rintro ⟨h1, h2, h3, h4, h5⟩
    exact ⟨h1, h2, h3, h4, fun x hx => by have := h5 x hx; omega⟩
theorem offF_zero {v : Vi} (h : prodW v.sh = 0) : offF v = [] := by unfold offF; rw [h]; rfl
set_option maxHeartbeats 4000000 in
set_option maxRecDepth 100000 in
theorem spec_validViewS {Sg : FuncId → Option (List AV → Option AV)} (hS : Sound Tryz.prog Sg) (hs : Sg 179 = some (F1 gIsShape)) (ha : Sg 114 = some (F3 gAllIn)) (hr : Sg 100 = some (F3 gInRange)) (hc : Sg 172 = some (F1 gCount)) (ho : Sg 143 = some (F1 gOffsets)) : ∀ a r, F1 gValidV a = some r → CSpec Tryz.prog 148 a r := by
  refine F1_spec ?_
  intro v r hr0
  obtain ⟨⟨h1, h2⟩, rfl⟩ := gd_some hr0
  refine CSpec.intro Tryz.func148 rfl (own _) (vc3_sound Tryz.pf hS hS _ _ _ ?_)
  have q1 := gIsShape_eq (l := v.sh) h1
  cases e1 : shapeOK v.sh with
  | false =>
    have hf : viewOK v = false := by unfold viewOK; rw [e1]; rfl
    rw [e1] at q1
    repeat' (first | with_reducible first | refine kI (by kernel_rfl) ?_ | refine kN (by kernel_rfl) ?_ | simp -implicitDefEqProofs (disch := omega) only [go_sem, Nat.reduceAdd, Nat.reduceSub, reduceCtorEq, Nat.reduceLT, Nat.reduceLeDiff, Nat.reduceEqDiff, ↓reduceIte, List.take_of_length_le, if_pos, if_neg, cnE, cnV, Tryz.ntmps148, Tryz.results148,  hs, q1, hf])
  | true =>
    rw [e1] at q1
    obtain ⟨s1, s2, s3, s4, s5⟩ := shape_facts e1
    cases e2 : decide (v.st.length = v.sh.length) with
    | false =>
      have hf : viewOK v = false := by unfold viewOK; rw [e1, e2]; rfl
      have e2' : ((v.st.length : Int) == (v.sh.length : Int)) = false := beq_f (by have := of_decide_eq_false e2; omega)
      repeat' (first | with_reducible first | refine kI (by kernel_rfl) ?_ | refine kN (by kernel_rfl) ?_ | simp -implicitDefEqProofs (disch := omega) only [go_sem, Nat.reduceAdd, Nat.reduceSub, reduceCtorEq, Nat.reduceLT, Nat.reduceLeDiff, Nat.reduceEqDiff, ↓reduceIte, List.take_of_length_le, if_pos, if_neg, cnE, cnV, Tryz.ntmps148, Tryz.results148,  hs, q1, e2', hf])
    | true =>
      have e2n := of_decide_eq_true e2
      have e2' : ((v.st.length : Int) == (v.sh.length : Int)) = true := beq_t (by omega)
      have q2 := gAllIn_eq (l := v.st) h2 (-60) 60
      cases e3 : v.st.all (fun n => inR n (-60) 60) with
      | false =>
        have hf : viewOK v = false := by unfold viewOK; rw [e1, e2, e3]; rfl
        rw [e3] at q2
        repeat' (first | with_reducible first | refine kI (by kernel_rfl) ?_ | refine kN (by kernel_rfl) ?_ | simp -implicitDefEqProofs (disch := omega) only [go_sem, Nat.reduceAdd, Nat.reduceSub, reduceCtorEq, Nat.reduceLT, Nat.reduceLeDiff, Nat.reduceEqDiff, ↓reduceIte, List.take_of_length_le, if_pos, if_neg, cnE, cnV, Tryz.ntmps148, Tryz.results148,  hs, q1, e2', ha, q2, hf])
      | true =>
        rw [e3] at q2
        have q3 := gInRange_eq v.b 0 60
        cases e4 : inR v.b 0 60 with
        | false =>
          have hf : viewOK v = false := by unfold viewOK; rw [e1, e2, e3, e4]; rfl
          rw [e4] at q3
          repeat' (first | with_reducible first | refine kI (by kernel_rfl) ?_ | refine kN (by kernel_rfl) ?_ | simp -implicitDefEqProofs (disch := omega) only [go_sem, Nat.reduceAdd, Nat.reduceSub, reduceCtorEq, Nat.reduceLT, Nat.reduceLeDiff, Nat.reduceEqDiff, ↓reduceIte, List.take_of_length_le, if_pos, if_neg, cnE, cnV, Tryz.ntmps148, Tryz.results148,  hs, q1, e2', ha, q2, hr, q3, hf])
        | true =>
          rw [e4] at q3
          have q4 := gCount_eq (l := v.sh) h1
          have hf : viewOK v = (offF v).all fun n => inR n 0 59 := by unfold viewOK; rw [e1, e2, e3, e4]; rfl
          by_cases e5 : prodW v.sh = 0
          · have hf2 : viewOK v = true := by rw [hf, offF_zero e5]; rfl
            rw [e5] at q4
            repeat' (first | with_reducible first | refine kI (by kernel_rfl) ?_ | refine kN (by kernel_rfl) ?_ | simp -implicitDefEqProofs (disch := omega) only [go_sem, Nat.reduceAdd, Nat.reduceSub, reduceCtorEq, Nat.reduceLT, Nat.reduceLeDiff, Nat.reduceEqDiff, ↓reduceIte, List.take_of_length_le, if_pos, if_neg, cnE, cnV, Tryz.ntmps148, Tryz.results148,  hs, q1, e2', ha, q2, hr, q3, hc, q4, hf2])
          · have e5' : (prodW v.sh == 0) = false := beq_f e5
            have q5 := gOffsets_eq (v := v) ⟨e1, e2n⟩
            have q6 := gAllIn_eq (l := offF v) (by rw [offF_len]; omega) 0 59
            rw [← hf] at q6
            repeat' (first | with_reducible first | refine kI (by kernel_rfl) ?_ | refine kN (by kernel_rfl) ?_ | simp -implicitDefEqProofs (disch := omega) only [go_sem, Nat.reduceAdd, Nat.reduceSub, reduceCtorEq, Nat.reduceLT, Nat.reduceLeDiff, Nat.reduceEqDiff, ↓reduceIte, List.take_of_length_le, if_pos, if_neg, cnE, cnV, Tryz.ntmps148, Tryz.results148,  hs, q1, e2', ha, q2, hr, q3, hc, q4, e5', ho, q5, q6])
def notCell (x : Int) : Bool := decide (x < 0) || decide (60 ≤ x)
set_option maxHeartbeats 2000000 in
set_option maxRecDepth 100000 in
theorem ispec_isView1 {Sg : FuncId → Option (List AV → Option AV)} (hS : Sound Tryz.prog Sg) (x : Int) (L : List Blk) : ISpec Tryz.prog 117 [i64 x] L (fun r L' => r = .bool (notCell x) ∧ L' = L) := by
  refine ISpec.intro Tryz.func117 rfl (vc_sound Tryz.pf hS _ _ _ ?_)
  by_cases h : x < 0
  · repeat' (first | with_reducible first | refine kI (by kernel_rfl) ?_ | refine kN (by kernel_rfl) ?_ | simp -implicitDefEqProofs (disch := omega) only [go_sem, Nat.reduceAdd, Nat.reduceSub, reduceCtorEq, Nat.reduceLT, Nat.reduceLeDiff, Nat.reduceEqDiff, ↓reduceIte, List.take_of_length_le, if_pos, if_neg, cnE, cnV, Tryz.ntmps117, Tryz.results117,  h, notCell])
  · by_cases h' : 60 ≤ x
    · repeat' (first | with_reducible first | refine kI (by kernel_rfl) ?_ | refine kN (by kernel_rfl) ?_ | simp -implicitDefEqProofs (disch := omega) only [go_sem, Nat.reduceAdd, Nat.reduceSub, reduceCtorEq, Nat.reduceLT, Nat.reduceLeDiff, Nat.reduceEqDiff, ↓reduceIte, List.take_of_length_le, if_pos, if_neg, cnE, cnV, Tryz.ntmps117, Tryz.results117,  h, h', notCell])
    · repeat' (first | with_reducible first | refine kI (by kernel_rfl) ?_ | refine kN (by kernel_rfl) ?_ | simp -implicitDefEqProofs (disch := omega) only [go_sem, Nat.reduceAdd, Nat.reduceSub, reduceCtorEq, Nat.reduceLT, Nat.reduceLeDiff, Nat.reduceEqDiff, ↓reduceIte, List.take_of_length_le, if_pos, if_neg, cnE, cnV, Tryz.ntmps117, Tryz.results117,  h, h', notCell])
theorem can_ContainsFunc : CanCall Tryz.prog 108 := ⟨_, Tryz.func108, rfl, rfl⟩
theorem any_all {l : List Int} : (!l.any notCell) = l.all fun n => inR n 0 59 := by
  rw [Bool.eq_iff_iff, Bool.not_eq_true', List.any_eq_false, List.all_eq_true]
  constructor
  · intro h x hx
    have := h x hx
    unfold notCell at this
    unfold inR
    simp only [Bool.or_eq_true, decide_eq_true_eq, Bool.and_eq_true, not_or] at this ⊢
    omega
  · intro h x hx
    have := h x hx
    unfold inR at this
    unfold notCell
    simp only [Bool.or_eq_true, decide_eq_true_eq, Bool.and_eq_true, not_or] at this ⊢
    omega
set_option maxHeartbeats 4000000 in
set_option maxRecDepth 100000 in
theorem spec_isView {Sg : FuncId → Option (List AV → Option AV)} (hS : Sound Tryz.prog Sg) (hs : Sg 115 = some (F1 gIsShape)) (ho : Sg 116 = some (F1 gOffsets)) (n1 : Sg 108 = none) (hi : Sg 146 = none) : ∀ a r, F1 gValidV a = some r → CSpec Tryz.prog 68 a r := by
  refine F1_spec ?_
  intro v r hr0
  obtain ⟨⟨h1, h2⟩, rfl⟩ := gd_some hr0
  refine CSpec.intro Tryz.func68 rfl (own _) (vc3_sound Tryz.pf hS hS _ _ _ ?_)
  have q1 := gIsShape_eq (l := v.sh) h1
  cases e1 : shapeOK v.sh with
  | false =>
    have hf : viewOK v = false := by unfold viewOK; rw [e1]; rfl
    rw [e1] at q1
    repeat' (first | with_reducible first | refine kI (by kernel_rfl) ?_ | refine kN (by kernel_rfl) ?_ | simp -implicitDefEqProofs (disch := omega) only [go_sem, Nat.reduceAdd, Nat.reduceSub, reduceCtorEq, Nat.reduceLT, Nat.reduceLeDiff, Nat.reduceEqDiff, ↓reduceIte, List.take_of_length_le, if_pos, if_neg, cnE, cnV, Tryz.ntmps68, Tryz.results68,  hs, q1, hf])
  | true =>
    rw [e1] at q1
    obtain ⟨s1, s2, s3, s4, s5⟩ := shape_facts e1
    by_cases e2 : v.st.length = v.sh.length
    · have e2' : ((v.st.length : Int) == (v.sh.length : Int)) = true := beq_t (by omega)
      by_cases e3 : v.b < 0
      · have hf : viewOK v = false := by rw [← Bool.not_eq_true, viewOK_iff]; rintro ⟨_, _, _, h, _⟩; omega
        repeat' (first | with_reducible first | refine kI (by kernel_rfl) ?_ | refine kN (by kernel_rfl) ?_ | simp -implicitDefEqProofs (disch := omega) only [go_sem, Nat.reduceAdd, Nat.reduceSub, reduceCtorEq, Nat.reduceLT, Nat.reduceLeDiff, Nat.reduceEqDiff, ↓reduceIte, List.take_of_length_le, if_pos, if_neg, cnE, cnV, Tryz.ntmps68, Tryz.results68,  hs, q1, e2', e3, hf])
      · by_cases e4 : 60 < v.b
        · have hf : viewOK v = false := by rw [← Bool.not_eq_true, viewOK_iff]; rintro ⟨_, _, _, h, _⟩; omega
          repeat' (first | with_reducible first | refine kI (by kernel_rfl) ?_ | refine kN (by kernel_rfl) ?_ | simp -implicitDefEqProofs (disch := omega) only [go_sem, Nat.reduceAdd, Nat.reduceSub, reduceCtorEq, Nat.reduceLT, Nat.reduceLeDiff, Nat.reduceEqDiff, ↓reduceIte, List.take_of_length_le, if_pos, if_neg, cnE, cnV, Tryz.ntmps68, Tryz.results68,  hs, q1, e2', e3, e4, hf])
        · repeat' (first | with_reducible first | refine kI (by kernel_rfl) ?_ | refine kN (by kernel_rfl) ?_ | simp -implicitDefEqProofs (disch := omega) only [go_sem, Nat.reduceAdd, Nat.reduceSub, reduceCtorEq, Nat.reduceLT, Nat.reduceLeDiff, Nat.reduceEqDiff, ↓reduceIte, List.take_of_length_le, if_pos, if_neg, cnE, cnV, Tryz.ntmps68, Tryz.results68,  hs, q1, e2', e3, e4])
          refine LoopQ.mix (fun t0 L0 nn ss => ∃ (k : Nat) (_ : Unit), (∃ x : Nat → AV, ss = ⟨mixL 0 (.k :: .k :: .s :: .k :: .s :: .k :: .k :: .k :: .k :: .k :: .k :: .k :: .k :: .k :: .k :: .k :: .k :: .k :: .k :: .k :: .k :: .k :: .k :: .k :: .k :: .k :: .k :: .k :: .k :: .k :: .k :: .v (i64 (k : Nat)) :: .s :: .s :: .s :: .s :: .s :: .s :: .s :: .s :: .s :: .s :: .k :: .k :: .k :: .k :: []) t0 x, L0⟩) ∧ (k ≤ v.st.length) ∧ (∀ i, i < k → -60 ≤ v.st.getD i 0 ∧ v.st.getD i 0 ≤ 60) ∧ nn = v.st.length - k) ?_ ?_
          · exact ⟨_, ⟨0, (), mixI rfl, Nat.zero_le _, fun i hi => absurd hi (Nat.not_lt_zero _), rfl⟩⟩
          · rintro I0 hI0 n ss ⟨k, _, ⟨y, rfl⟩, m1, m2, rfl⟩
            by_cases hk : k < v.st.length
            · have hm : v.st.getD k 0 ∈ v.st := gmem hk
              by_cases e5 : v.st.getD k 0 < -60
              · have hf : viewOK v = false := by rw [← Bool.not_eq_true, viewOK_iff]; rintro ⟨_, _, h, _⟩; have := h _ hm; omega
                repeat' (first | with_reducible first | refine kI (by kernel_rfl) ?_ | refine kN (by kernel_rfl) ?_ | simp -implicitDefEqProofs (disch := omega) only [go_sem, Nat.reduceAdd, Nat.reduceSub, reduceCtorEq, Nat.reduceLT, Nat.reduceLeDiff, Nat.reduceEqDiff, ↓reduceIte, List.take_of_length_le, if_pos, if_neg, cnE, cnV, Tryz.ntmps68, Tryz.results68,  e5, hf])
              · by_cases e6 : 60 < v.st.getD k 0
                · have hf : viewOK v = false := by rw [← Bool.not_eq_true, viewOK_iff]; rintro ⟨_, _, h, _⟩; have := h _ hm; omega
                  repeat' (first | with_reducible first | refine kI (by kernel_rfl) ?_ | refine kN (by kernel_rfl) ?_ | simp -implicitDefEqProofs (disch := omega) only [go_sem, Nat.reduceAdd, Nat.reduceSub, reduceCtorEq, Nat.reduceLT, Nat.reduceLeDiff, Nat.reduceEqDiff, ↓reduceIte, List.take_of_length_le, if_pos, if_neg, cnE, cnV, Tryz.ntmps68, Tryz.results68,  e5, e6, hf])
                · repeat' (first | with_reducible first | refine kI (by kernel_rfl) ?_ | refine kN (by kernel_rfl) ?_ | simp -implicitDefEqProofs (disch := omega) only [go_sem, Nat.reduceAdd, Nat.reduceSub, reduceCtorEq, Nat.reduceLT, Nat.reduceLeDiff, Nat.reduceEqDiff, ↓reduceIte, List.take_of_length_le, if_pos, if_neg, cnE, cnV, Tryz.ntmps68, Tryz.results68,  e5, e6])
                  exact ⟨v.st.length - (k + 1), by omega, hI0 _ _ ⟨k + 1, (), mixI rfl, hk, fun i hi => by rcases Nat.lt_or_eq_of_le (Nat.le_of_lt_succ hi) with h | rfl; exact m2 i h; omega, rfl⟩⟩
            · obtain rfl : k = v.st.length := by omega
              have hst : v.st.all (fun n => inR n (-60) 60) = true := by
                rw [List.all_eq_true]
                intro x hx
                obtain ⟨i, hi, rfl⟩ := List.mem_iff_getElem.1 hx
                have := m2 i hi
                simp only [List.getD_eq_getElem?_getD, List.getElem?_eq_getElem hi, Option.getD_some] at this
                unfold inR
                simp only [Bool.and_eq_true, decide_eq_true_eq]; exact this
              have hb : inR v.b 0 60 = true := by unfold inR; simp only [Bool.and_eq_true, decide_eq_true_eq]; omega
              have hf : viewOK v = (offF v).all fun n => inR n 0 59 := by unfold viewOK; rw [e1, decide_eq_true e2, hst, hb]; rfl
              rw [← any_all] at hf
              have q5 := gOffsets_eq (v := v) ⟨e1, e2⟩
              repeat' (first | with_reducible first | refine kI (by kernel_rfl) ?_ | refine kN (by kernel_rfl) ?_ | simp -implicitDefEqProofs (disch := omega) only [go_sem, Nat.reduceAdd, Nat.reduceSub, reduceCtorEq, Nat.reduceLT, Nat.reduceLeDiff, Nat.reduceEqDiff, ↓reduceIte, List.take_of_length_le, if_pos, if_neg, cnE, cnV, Tryz.ntmps68, Tryz.results68,  ho, q5, n1, opQ_none])
              refine InlK_intro rfl rfl can_ContainsFunc ((ispec_ContainsFunc hS hi ⟨_, Tryz.func117, rfl, rfl⟩ (ispec_isView1 hS) 1 (offF v) (by rw [offF_len]; omega) _).mono ?_)
              rintro r L' ⟨rfl, rfl⟩
              repeat' (first | with_reducible first | refine kI (by kernel_rfl) ?_ | refine kN (by kernel_rfl) ?_ | simp -implicitDefEqProofs (disch := omega) only [go_sem, Nat.reduceAdd, Nat.reduceSub, reduceCtorEq, Nat.reduceLT, Nat.reduceLeDiff, Nat.reduceEqDiff, ↓reduceIte, List.take_of_length_le, if_pos, if_neg, cnE, cnV, Tryz.ntmps68, Tryz.results68,  hf])
    · have e2' : ((v.st.length : Int) == (v.sh.length : Int)) = false := beq_f (by omega)
      have hf : viewOK v = false := by rw [← Bool.not_eq_true, viewOK_iff]; rintro ⟨_, h, _⟩; exact e2 h
      repeat' (first | with_reducible first | refine kI (by kernel_rfl) ?_ | refine kN (by kernel_rfl) ?_ | simp -implicitDefEqProofs (disch := omega) only [go_sem, Nat.reduceAdd, Nat.reduceSub, reduceCtorEq, Nat.reduceLT, Nat.reduceLeDiff, Nat.reduceEqDiff, ↓reduceIte, List.take_of_length_le, if_pos, if_neg, cnE, cnV, Tryz.ntmps68, Tryz.results68,  hs, q1, e2', hf])
end Go.Proofs.YtkmnepmnjpdpkaaGreatDoor
namespace Go.Proofs.YtkmnepmnjpdpkaaGreatDoor
open Go Go.Ev Go.RowKit Go.Ev.Enc Go.Pl

end Go.Proofs.YtkmnepmnjpdpkaaGreatDoor
namespace Go.Proofs.YtkmnepmnjpdpkaaGreatDoor
open Go Go.Ev Go.RowKit Go.Ev.Enc Go.Pl

theorem evTwo_eq (g : Int → Int → Int) (k k' : IntKind) (a b : Int) : evTwo g [.int k a, .int k' b] = some (.int k (g a b)) := rfl
attribute [go_sem] evTwo_eq
structure Rg where
  a : Int
  z : Int
  s : Int
  deriving DecidableEq
instance : Enc Rg where
  enc t x := .agg [.int .i64 x.a, .int .i64 x.z, .int .i64 x.s]
  dec | .agg [x, y, z] => (dec x).bind fun n => (dec y).bind fun a => (dec z).map fun b => ⟨n, a, b⟩
      | _ => none
  ok x a := by
    constructor
    · intro h
      split at h
      · simp only [Option.bind_eq_some_iff, Option.map_eq_some_iff] at h
        obtain ⟨n, hn, p, hp, q, hq, rfl⟩ := h
        rw [(ok _ _).1 hn, (ok _ _).1 hp, (ok _ _).1 hq]; rfl
      · simp at h
    · rintro rfl
      show ((dec (enc 0 a.a)).bind fun n => (dec (enc 0 a.z)).bind fun p => (dec (enc 0 a.s)).map fun q => (⟨n, p, q⟩ : Rg)) = some a
      rw [(ok _ a.a).2 rfl, (ok _ a.z).2 rfl, (ok _ a.s).2 rfl]; rfl
  own a := .agg _ (by
    intro x hx
    simp only [List.mem_cons, List.not_mem_nil, or_false] at hx
    rcases hx with rfl | rfl | rfl
    · exact own a.a
    · exact own a.z
    · exact own a.s)
structure Sl where
  f : Int
  t : Int
  s : Int
  hf : Bool
  ht : Bool
  deriving DecidableEq
instance : Enc Sl where
  enc t x := .agg [.int .i64 x.f, .int .i64 x.t, .int .i64 x.s, .bool x.hf, .bool x.ht]
  dec | .agg [x, y, z, p, q] => (dec x).bind fun n => (dec y).bind fun a => (dec z).bind fun b => (dec p).bind fun c => (dec q).map fun d => ⟨n, a, b, c, d⟩
      | _ => none
  ok x a := by
    constructor
    · intro h
      split at h
      · simp only [Option.bind_eq_some_iff, Option.map_eq_some_iff] at h
        obtain ⟨n, hn, p, hp, q, hq, u, hu, v, hv, rfl⟩ := h
        rw [(ok _ _).1 hn, (ok _ _).1 hp, (ok _ _).1 hq, (ok _ _).1 hu, (ok _ _).1 hv]; rfl
      · simp at h
    · rintro rfl
      show ((dec (enc 0 a.f)).bind fun n => (dec (enc 0 a.t)).bind fun p => (dec (enc 0 a.s)).bind fun q => (dec (enc 0 a.hf)).bind fun u => (dec (enc 0 a.ht)).map fun v => (⟨n, p, q, u, v⟩ : Sl)) = some a
      rw [(ok _ a.f).2 rfl, (ok _ a.t).2 rfl, (ok _ a.s).2 rfl, (ok _ a.hf).2 rfl, (ok _ a.ht).2 rfl]; rfl
  own a := .agg _ (by
    intro x hx
    simp only [List.mem_cons, List.not_mem_nil, or_false] at hx
    rcases hx with rfl | rfl | rfl | rfl | rfl
    · exact own a.f
    · exact own a.t
    · exact own a.s
    · exact own a.hf
    · exact own a.ht)
theorem enc_rg (t : Nat) (x : Rg) : (enc t x : AV) = .agg [.int .i64 x.a, .int .i64 x.z, .int .i64 x.s] := rfl
theorem enc_sl' (t : Nat) (x : Sl) : (enc t x : AV) = .agg [.int .i64 x.f, .int .i64 x.t, .int .i64 x.s, .bool x.hf, .bool x.ht] := rfl
theorem dec_rg (a b c : Int) : (dec (.agg [.int .i64 a, .int .i64 b, .int .i64 c]) : Option Rg) = some ⟨a, b, c⟩ := (ok _ _).2 rfl
theorem dec_sl' (a b c : Int) (p q : Bool) : (dec (.agg [.int .i64 a, .int .i64 b, .int .i64 c, .bool p, .bool q]) : Option Sl) = some ⟨a, b, c, p, q⟩ := (ok _ _).2 rfl
theorem rg_eta (x : Rg) : (⟨x.a, x.z, x.s⟩ : Rg) = x := rfl
theorem sl_eta (x : Sl) : (⟨x.f, x.t, x.s, x.hf, x.ht⟩ : Sl) = x := rfl
attribute [go_sem] enc_rg enc_sl' dec_rg dec_sl' rg_eta sl_eta

def goesOn (z s x : Int) : Prop := (0 < s ∧ x < z) ∨ (s < 0 ∧ z < x)
instance (z s x : Int) : Decidable (goesOn z s x) := by unfold goesOn; infer_instance
def numL (z s : Int) : Nat → Int → List Int
  | 0, _ => []
  | n + 1, x => if goesOn z s x then x :: numL z s n (x + s) else []
def distR (z s x : Int) : Nat := if 0 < s then (z - x).toNat else (x - z).toNat
def numF (r : Rg) : List Int := numL r.z r.s (distR r.z r.s r.a) r.a
theorem numL_len (z s : Int) : ∀ n x, (numL z s n x).length ≤ n
  | 0, _ => Nat.le_refl _
  | n + 1, x => by
    unfold numL
    split
    · rw [List.length_cons]; have := numL_len z s n (x + s); omega
    · simp
theorem dist_step {z s x : Int} (h : goesOn z s x) : distR z s (x + s) < distR z s x := by
  unfold goesOn at h
  unfold distR
  split <;> omega
theorem dist_pos {z s x : Int} (h : goesOn z s x) : 0 < distR z s x := by
  unfold goesOn at h
  unfold distR
  split <;> omega
theorem numL_fuel {z s : Int} : ∀ n m x, distR z s x ≤ n → distR z s x ≤ m → numL z s n x = numL z s m x
  | 0, m, x, h, h' => by
    have hn : ¬ goesOn z s x := fun hg => by have := dist_pos hg; omega
    match m with
    | 0 => rfl
    | m + 1 => rw [numL, numL, if_neg hn]
  | n + 1, 0, x, h, h' => by
    have hn : ¬ goesOn z s x := fun hg => by have := dist_pos hg; omega
    rw [numL, numL, if_neg hn]
  | n + 1, m + 1, x, h, h' => by
    rw [numL, numL]
    split
    · rename_i hg
      have := dist_step hg
      rw [numL_fuel n m (x + s) (by omega) (by omega)]
    · rfl
theorem numF_on {z s x : Int} (h : goesOn z s x) : numL z s (distR z s x) x = x :: numL z s (distR z s (x + s)) (x + s) := by
  have h1 := dist_step h
  obtain ⟨n, hn⟩ : ∃ n, distR z s x = n + 1 := ⟨distR z s x - 1, by have := dist_pos h; omega⟩
  rw [hn, numL, if_pos h, numL_fuel n (distR z s (x + s)) (x + s) (by omega) (Nat.le_refl _)]
theorem numF_off {z s x : Int} (h : ¬ goesOn z s x) : numL z s (distR z s x) x = [] := by
  cases hn : distR z s x with
  | zero => rfl
  | succ n => rw [numL, if_neg h]
def rgB (r : Rg) : Prop := (-1000 ≤ r.a ∧ r.a ≤ 1000) ∧ (-1000 ≤ r.z ∧ r.z ≤ 1000) ∧ (-1000 ≤ r.s ∧ r.s ≤ 1000)
instance (r : Rg) : Decidable (rgB r) := by unfold rgB; infer_instance
theorem numF_len {r : Rg} (h : rgB r) : (numF r).length ≤ 2000 := by
  unfold rgB at h
  refine Nat.le_trans (numL_len _ _ _ _) ?_
  unfold distR
  split <;> omega
def gNumbers (r : Rg) : Option (List Int) := gd (rgB r) (numF r)
theorem gNumbers_eq {r : Rg} (h : rgB r) : gNumbers r = some (numF r) := gd_eq h
set_option maxHeartbeats 4000000 in
set_option maxRecDepth 100000 in
theorem spec_numbers {Sg : FuncId → Option (List AV → Option AV)} (hS : Sound Tryz.prog Sg) : ∀ a r, F1 gNumbers a = some r → CSpec Tryz.prog 219 a r := by
  refine F1_spec ?_
  intro g r hr
  obtain ⟨hb, rfl⟩ := gd_some hr
  refine CSpec.intro Tryz.func219 rfl (own _) (vc3_sound Tryz.pf hS hS _ _ _ ?_)
  have hb' := hb
  obtain ⟨⟨b1, b2⟩, ⟨b3, b4⟩, b5, b6⟩ := hb'
  have hl := numF_len hb
  have hd0 : distR g.z g.s g.a ≤ 2000 := by unfold distR; split <;> omega
  repeat' (first | with_reducible first | refine kI (by kernel_rfl) ?_ | refine kN (by kernel_rfl) ?_ | simp -implicitDefEqProofs (disch := omega) only [go_sem, Nat.reduceAdd, Nat.reduceSub, reduceCtorEq, Nat.reduceLT, Nat.reduceLeDiff, Nat.reduceEqDiff, Nat.reduceMul, Int.reduceToNat, ↓reduceIte, List.take_of_length_le, if_pos, if_neg, cnE, cnV, Tryz.ntmps219, Tryz.results219])
  refine LoopQ.mix (fun t0 L0 nn ss => ∃ (k : Nat) (y : Int) (q : List Int) (_ : Unit), (∃ x : Nat → AV, ss = ⟨mixL 0 (.k :: .k :: .k :: .v (.sl 1 k 0 k k) :: .v (i64 y) :: .k :: .k :: .k :: .s :: .s :: .s :: .s :: .s :: .s :: .s :: .s :: .s :: .s :: .s :: .s :: .s :: .s :: .s :: .s :: .s :: .s :: .s :: .s :: .s :: .s :: .s :: .s :: .s :: .s :: .s :: .s :: .k :: []) t0 x, [⟨3, [.agg [i64 g.a, i64 g.z, i64 g.s]]⟩, ⟨1, q.map fun n => .int .i64 n⟩]⟩) ∧ (q.length = k) ∧ (k + distR g.z g.s y ≤ 2000) ∧ (-2000 ≤ y ∧ y ≤ 2000) ∧ (q ++ numL g.z g.s (distR g.z g.s y) y = numF g) ∧ nn = distR g.z g.s y + 1) ?_ ?_
  · exact ⟨_, ⟨0, g.a, [], (), mixJ rfl (rfl), rfl, by omega, ⟨by omega, by omega⟩, rfl, rfl⟩⟩
  · rintro I0 hI0 nn ss ⟨k, y, q, _, ⟨x, rfl⟩, m1, m2, ⟨m3, m4⟩, m5, rfl⟩
    by_cases hg : goesOn g.z g.s y
    · rw [numF_on hg] at m5
      have h1 := dist_step hg
      have hw : IntKind.i64.wrap (y + g.s) = y + g.s := wrap_in (by omega)
      have h5 : (q ++ [y]) ++ numL g.z g.s (distR g.z g.s (y + g.s)) (y + g.s) = numF g := by rw [← m5]; simp
      have h6 : -2000 ≤ y + g.s ∧ y + g.s ≤ 2000 := by unfold goesOn at hg; omega
      rcases hg with ⟨s1, s2⟩ | ⟨s1, s2⟩
      · repeat' (first | with_reducible first | refine kI (by kernel_rfl) ?_ | refine kN (by kernel_rfl) ?_ | (first | refine kB1 ?_ ?_ | refine kB2 ?_ ?_) <;> intro hp | (first | refine kD1 ?_ ?_ | refine kD2 ?_ ?_ | refine kS1 ?_ ?_ | refine kS2 ?_ ?_) <;> intro hp <;> try simp only [hp] | simp -implicitDefEqProofs (disch := omega) only [go_sem, Nat.reduceAdd, Nat.reduceSub, reduceCtorEq, Nat.reduceLT, Nat.reduceLeDiff, Nat.reduceEqDiff, Nat.reduceMul, Int.reduceToNat, ↓reduceIte, List.take_of_length_le, if_pos, if_neg, cnE, cnV, Tryz.ntmps219, Tryz.results219,  s1, s2, hw])
        exact ⟨distR g.z g.s (y + g.s) + 1, by omega, hI0 _ _ ⟨k + 1, y + g.s, q ++ [y], (), mixI rfl, by simp [m1], by omega, h6, h5, rfl⟩⟩
      · have s3 : ¬ 0 < g.s := by omega
        repeat' (first | with_reducible first | refine kI (by kernel_rfl) ?_ | refine kN (by kernel_rfl) ?_ | (first | refine kB1 ?_ ?_ | refine kB2 ?_ ?_) <;> intro hp | (first | refine kD1 ?_ ?_ | refine kD2 ?_ ?_ | refine kS1 ?_ ?_ | refine kS2 ?_ ?_) <;> intro hp <;> try simp only [hp] | simp -implicitDefEqProofs (disch := omega) only [go_sem, Nat.reduceAdd, Nat.reduceSub, reduceCtorEq, Nat.reduceLT, Nat.reduceLeDiff, Nat.reduceEqDiff, Nat.reduceMul, Int.reduceToNat, ↓reduceIte, List.take_of_length_le, if_pos, if_neg, cnE, cnV, Tryz.ntmps219, Tryz.results219,  s1, s2, s3, hw])
        exact ⟨distR g.z g.s (y + g.s) + 1, by omega, hI0 _ _ ⟨k + 1, y + g.s, q ++ [y], (), mixI rfl, by simp [m1], by omega, h6, h5, rfl⟩⟩
    · rw [numF_off hg, List.append_nil] at m5
      have hg' := hg
      unfold goesOn at hg'
      rw [not_or] at hg'
      repeat' (first | with_reducible first | refine kI (by kernel_rfl) ?_ | refine kN (by kernel_rfl) ?_ | (first | refine kB1 ?_ ?_ | refine kB2 ?_ ?_) <;> intro hp | (first | refine kD1 ?_ ?_ | refine kD2 ?_ ?_ | refine kS1 ?_ ?_ | refine kS2 ?_ ?_) <;> intro hp <;> try simp only [hp] | simp -implicitDefEqProofs (disch := omega) only [go_sem, Nat.reduceAdd, Nat.reduceSub, reduceCtorEq, Nat.reduceLT, Nat.reduceLeDiff, Nat.reduceEqDiff, Nat.reduceMul, Int.reduceToNat, ↓reduceIte, List.take_of_length_le, if_pos, if_neg, cnE, cnV, Tryz.ntmps219, Tryz.results219])
      all_goals rw [m5]
def bndF (n i s : Int) : Int :=
  let lo := if s < 0 then -1 else 0
  let hi := if s < 0 then n - 1 else n
  let j := if i < 0 then i + n else i
  let m := if j > lo then j else lo
  if m < hi then m else hi
theorem bndF_in {n i s : Int} (h : 0 ≤ n) : -1 ≤ bndF n i s ∧ bndF n i s ≤ n := by
  unfold bndF
  simp only
  split <;> split <;> split <;> (try split) <;> omega
def gBound (n i s : Int) : Option Int := gd ((0 ≤ n ∧ n ≤ 1000) ∧ (-1000 ≤ i ∧ i ≤ 1000)) (bndF n i s)
theorem gBound_eq {n i s : Int} (h : (0 ≤ n ∧ n ≤ 1000) ∧ (-1000 ≤ i ∧ i ≤ 1000)) : gBound n i s = some (bndF n i s) := gd_eq h
set_option maxHeartbeats 4000000 in
set_option maxRecDepth 100000 in
theorem spec_bound {Sg : FuncId → Option (List AV → Option AV)} (hS : Sound Tryz.prog Sg) : ∀ a r, F3 gBound a = some r → CSpec Tryz.prog 227 a r := by
  refine F3_spec ?_
  intro n i s r hr
  obtain ⟨⟨⟨h1, h2⟩, h3, h4⟩, rfl⟩ := gd_some hr
  refine CSpec.intro Tryz.func227 rfl (own _) (vc3_sound Tryz.pf hS hS _ _ _ ?_)
  have w1 : IntKind.i64.wrap (n - 1) = n - 1 := wrap_in (by omega)
  have w2 : IntKind.i64.wrap (i + n) = i + n := wrap_in (by omega)
  unfold bndF
  by_cases c1 : s < 0
  · by_cases c2 : i < 0
    · repeat' (first | with_reducible first | refine kI (by kernel_rfl) ?_ | refine kN (by kernel_rfl) ?_ | simp -implicitDefEqProofs (disch := omega) only [go_sem, Nat.reduceAdd, Nat.reduceSub, reduceCtorEq, Nat.reduceLT, Nat.reduceLeDiff, Nat.reduceEqDiff, Nat.reduceMul, Int.reduceToNat, ↓reduceIte, List.take_of_length_le, if_pos, if_neg, cnE, cnV, Tryz.ntmps227, Tryz.results227,  c1, c2, w1, w2])
    · repeat' (first | with_reducible first | refine kI (by kernel_rfl) ?_ | refine kN (by kernel_rfl) ?_ | simp -implicitDefEqProofs (disch := omega) only [go_sem, Nat.reduceAdd, Nat.reduceSub, reduceCtorEq, Nat.reduceLT, Nat.reduceLeDiff, Nat.reduceEqDiff, Nat.reduceMul, Int.reduceToNat, ↓reduceIte, List.take_of_length_le, if_pos, if_neg, cnE, cnV, Tryz.ntmps227, Tryz.results227,  c1, c2, w1])
  · by_cases c2 : i < 0
    · repeat' (first | with_reducible first | refine kI (by kernel_rfl) ?_ | refine kN (by kernel_rfl) ?_ | simp -implicitDefEqProofs (disch := omega) only [go_sem, Nat.reduceAdd, Nat.reduceSub, reduceCtorEq, Nat.reduceLT, Nat.reduceLeDiff, Nat.reduceEqDiff, Nat.reduceMul, Int.reduceToNat, ↓reduceIte, List.take_of_length_le, if_pos, if_neg, cnE, cnV, Tryz.ntmps227, Tryz.results227,  c1, c2, w2])
    · repeat' (first | with_reducible first | refine kI (by kernel_rfl) ?_ | refine kN (by kernel_rfl) ?_ | simp -implicitDefEqProofs (disch := omega) only [go_sem, Nat.reduceAdd, Nat.reduceSub, reduceCtorEq, Nat.reduceLT, Nat.reduceLeDiff, Nat.reduceEqDiff, Nat.reduceMul, Int.reduceToNat, ↓reduceIte, List.take_of_length_le, if_pos, if_neg, cnE, cnV, Tryz.ntmps227, Tryz.results227,  c1, c2])
def indR (n : Int) (s : Sl) : Rg := ⟨if s.hf = true then bndF n s.f s.s else if s.s < 0 then n - 1 else 0, if s.ht = true then bndF n s.t s.s else if s.s < 0 then -1 else n, s.s⟩
def indF (n : Int) (s : Sl) : List Int := numF (indR n s)
def slB (s : Sl) : Prop := (-500 ≤ s.f ∧ s.f ≤ 500) ∧ (-500 ≤ s.t ∧ s.t ≤ 500) ∧ (-500 ≤ s.s ∧ s.s ≤ 500)
instance (s : Sl) : Decidable (slB s) := by unfold slB; infer_instance
theorem indR_b {n : Int} {s : Sl} (h : 0 ≤ n ∧ n ≤ 100) (hs : slB s) : rgB (indR n s) := by
  obtain ⟨_, _, b5, b6⟩ := hs
  have h1 := bndF_in (n := n) (i := s.f) (s := s.s) h.1
  have h2 := bndF_in (n := n) (i := s.t) (s := s.s) h.1
  unfold rgB indR
  simp only
  refine ⟨?_, ?_, by omega, by omega⟩
  · split
    · omega
    · split <;> omega
  · split
    · omega
    · split <;> omega
def gIndices (n : Int) (s : Sl) : Option (List Int) := gd ((0 ≤ n ∧ n ≤ 100) ∧ slB s) (indF n s)
theorem gIndices_eq {n : Int} {s : Sl} (h : (0 ≤ n ∧ n ≤ 100) ∧ slB s) : gIndices n s = some (indF n s) := gd_eq h
set_option maxHeartbeats 4000000 in
set_option maxRecDepth 100000 in
theorem spec_indices {Sg : FuncId → Option (List AV → Option AV)} (hS : Sound Tryz.prog Sg) (hb : Sg 227 = some (F3 gBound)) (hn : Sg 219 = some (F1 gNumbers)) : ∀ a r, F2 gIndices a = some r → CSpec Tryz.prog 218 a r := by
  refine F2_spec ?_
  intro n s r hr
  obtain ⟨⟨⟨h1, h2⟩, hs⟩, rfl⟩ := gd_some hr
  refine CSpec.intro Tryz.func218 rfl (own _) (vc3_sound Tryz.pf hS hS _ _ _ ?_)
  have q0 := gNumbers_eq (indR_b ⟨h1, h2⟩ hs)
  obtain ⟨⟨b1, b2⟩, ⟨b3, b4⟩, b5, b6⟩ := hs
  have q1 := gBound_eq (n := n) (i := s.f) (s := s.s) ⟨⟨by omega, by omega⟩, by omega, by omega⟩
  have q2 := gBound_eq (n := n) (i := s.t) (s := s.s) ⟨⟨by omega, by omega⟩, by omega, by omega⟩
  have w1 : IntKind.i64.wrap (n - 1) = n - 1 := wrap_in (by omega)
  have hI : indF n s = numF (indR n s) := rfl
  rw [hI]
  generalize hN : numF (indR n s) = N at q0 ⊢
  unfold indR at q0
  by_cases c1 : s.s < 0
  · rw [if_pos c1, if_pos c1] at q0
    cases e1 : s.hf <;> cases e2 : s.ht <;> rw [e1, e2] at q0
    · rw [if_neg (by simp), if_neg (by simp)] at q0
      repeat' (first | with_reducible first | refine kI (by kernel_rfl) ?_ | refine kN (by kernel_rfl) ?_ | simp -implicitDefEqProofs (disch := omega) only [go_sem, Nat.reduceAdd, Nat.reduceSub, reduceCtorEq, Nat.reduceLT, Nat.reduceLeDiff, Nat.reduceEqDiff, Nat.reduceMul, Int.reduceToNat, ↓reduceIte, List.take_of_length_le, if_pos, if_neg, cnE, cnV, Tryz.ntmps218, Tryz.results218,  c1, w1, e1, e2, hb, q1, q2, hn, q0])
    · rw [if_neg (by simp), if_pos rfl] at q0
      repeat' (first | with_reducible first | refine kI (by kernel_rfl) ?_ | refine kN (by kernel_rfl) ?_ | simp -implicitDefEqProofs (disch := omega) only [go_sem, Nat.reduceAdd, Nat.reduceSub, reduceCtorEq, Nat.reduceLT, Nat.reduceLeDiff, Nat.reduceEqDiff, Nat.reduceMul, Int.reduceToNat, ↓reduceIte, List.take_of_length_le, if_pos, if_neg, cnE, cnV, Tryz.ntmps218, Tryz.results218,  c1, w1, e1, e2, hb, q1, q2, hn, q0])
    · rw [if_pos rfl, if_neg (by simp)] at q0
      repeat' (first | with_reducible first | refine kI (by kernel_rfl) ?_ | refine kN (by kernel_rfl) ?_ | simp -implicitDefEqProofs (disch := omega) only [go_sem, Nat.reduceAdd, Nat.reduceSub, reduceCtorEq, Nat.reduceLT, Nat.reduceLeDiff, Nat.reduceEqDiff, Nat.reduceMul, Int.reduceToNat, ↓reduceIte, List.take_of_length_le, if_pos, if_neg, cnE, cnV, Tryz.ntmps218, Tryz.results218,  c1, w1, e1, e2, hb, q1, q2, hn, q0])
    · rw [if_pos rfl, if_pos rfl] at q0
      repeat' (first | with_reducible first | refine kI (by kernel_rfl) ?_ | refine kN (by kernel_rfl) ?_ | simp -implicitDefEqProofs (disch := omega) only [go_sem, Nat.reduceAdd, Nat.reduceSub, reduceCtorEq, Nat.reduceLT, Nat.reduceLeDiff, Nat.reduceEqDiff, Nat.reduceMul, Int.reduceToNat, ↓reduceIte, List.take_of_length_le, if_pos, if_neg, cnE, cnV, Tryz.ntmps218, Tryz.results218,  c1, w1, e1, e2, hb, q1, q2, hn, q0])
  · rw [if_neg c1, if_neg c1] at q0
    cases e1 : s.hf <;> cases e2 : s.ht <;> rw [e1, e2] at q0
    · rw [if_neg (by simp), if_neg (by simp)] at q0
      repeat' (first | with_reducible first | refine kI (by kernel_rfl) ?_ | refine kN (by kernel_rfl) ?_ | simp -implicitDefEqProofs (disch := omega) only [go_sem, Nat.reduceAdd, Nat.reduceSub, reduceCtorEq, Nat.reduceLT, Nat.reduceLeDiff, Nat.reduceEqDiff, Nat.reduceMul, Int.reduceToNat, ↓reduceIte, List.take_of_length_le, if_pos, if_neg, cnE, cnV, Tryz.ntmps218, Tryz.results218,  c1, e1, e2, hb, q1, q2, hn, q0])
    · rw [if_neg (by simp), if_pos rfl] at q0
      repeat' (first | with_reducible first | refine kI (by kernel_rfl) ?_ | refine kN (by kernel_rfl) ?_ | simp -implicitDefEqProofs (disch := omega) only [go_sem, Nat.reduceAdd, Nat.reduceSub, reduceCtorEq, Nat.reduceLT, Nat.reduceLeDiff, Nat.reduceEqDiff, Nat.reduceMul, Int.reduceToNat, ↓reduceIte, List.take_of_length_le, if_pos, if_neg, cnE, cnV, Tryz.ntmps218, Tryz.results218,  c1, e1, e2, hb, q1, q2, hn, q0])
    · rw [if_pos rfl, if_neg (by simp)] at q0
      repeat' (first | with_reducible first | refine kI (by kernel_rfl) ?_ | refine kN (by kernel_rfl) ?_ | simp -implicitDefEqProofs (disch := omega) only [go_sem, Nat.reduceAdd, Nat.reduceSub, reduceCtorEq, Nat.reduceLT, Nat.reduceLeDiff, Nat.reduceEqDiff, Nat.reduceMul, Int.reduceToNat, ↓reduceIte, List.take_of_length_le, if_pos, if_neg, cnE, cnV, Tryz.ntmps218, Tryz.results218,  c1, e1, e2, hb, q1, q2, hn, q0])
    · rw [if_pos rfl, if_pos rfl] at q0
      repeat' (first | with_reducible first | refine kI (by kernel_rfl) ?_ | refine kN (by kernel_rfl) ?_ | simp -implicitDefEqProofs (disch := omega) only [go_sem, Nat.reduceAdd, Nat.reduceSub, reduceCtorEq, Nat.reduceLT, Nat.reduceLeDiff, Nat.reduceEqDiff, Nat.reduceMul, Int.reduceToNat, ↓reduceIte, List.take_of_length_le, if_pos, if_neg, cnE, cnV, Tryz.ntmps218, Tryz.results218,  c1, e1, e2, hb, q1, q2, hn, q0])
def nrmF (l : List Int) : Rg :=
  if l.length = 0 then ⟨0, 0, 1⟩ else if l.length = 1 then ⟨l.getD 0 0, l.getD 0 0 + 1, 1⟩
  else ⟨l.getD 0 0, if l.getD 1 0 - l.getD 0 0 < 0 then l.getD (l.length - 1) 0 - 1 else l.getD (l.length - 1) 0 + 1, l.getD 1 0 - l.getD 0 0⟩
def smallL (m : Int) (l : List Int) : Prop := ∀ x ∈ l, -m ≤ x ∧ x ≤ m
instance (m : Int) (l : List Int) : Decidable (smallL m l) := by unfold smallL; infer_instance
theorem smallL_at {m : Int} {l : List Int} (h : smallL m l) {k : Nat} (hk : k < l.length) : -m ≤ l.getD k 0 ∧ l.getD k 0 ≤ m := h _ (gmem hk)
def gNormal (l : List Int) : Option Rg := gd (l.length < 4294967296 ∧ smallL 100000 l) (nrmF l)
theorem gNormal_eq {l : List Int} (h : l.length < 4294967296 ∧ smallL 100000 l) : gNormal l = some (nrmF l) := gd_eq h
set_option maxHeartbeats 4000000 in
set_option maxRecDepth 100000 in
theorem spec_normal {Sg : FuncId → Option (List AV → Option AV)} (hS : Sound Tryz.prog Sg) : ∀ a r, F1 gNormal a = some r → CSpec Tryz.prog 217 a r := by
  refine F1_spec ?_
  intro l r hr
  obtain ⟨⟨h1, h2⟩, rfl⟩ := gd_some hr
  refine CSpec.intro Tryz.func217 rfl (own _) (vc3_sound Tryz.pf hS hS _ _ _ ?_)
  unfold nrmF
  by_cases c0 : l.length = 0
  · rw [if_pos c0]
    have c0' : ((l.length : Int) == 0) = true := beq_t (by omega)
    repeat' (first | with_reducible first | refine kI (by kernel_rfl) ?_ | refine kN (by kernel_rfl) ?_ | simp -implicitDefEqProofs (disch := omega) only [go_sem, Nat.reduceAdd, Nat.reduceSub, reduceCtorEq, Nat.reduceLT, Nat.reduceLeDiff, Nat.reduceEqDiff, Nat.reduceMul, Int.reduceToNat, ↓reduceIte, List.take_of_length_le, if_pos, if_neg, cnE, cnV, Tryz.ntmps217, Tryz.results217,  c0'])
  · rw [if_neg c0]
    have c0' : ((l.length : Int) == 0) = false := beq_f (by omega)
    by_cases c1 : l.length = 1
    · rw [if_pos c1]
      have c1' : ((l.length : Int) == 1) = true := beq_t (by omega)
      have hb := smallL_at h2 (k := 0) (by omega)
      have w1 : IntKind.i64.wrap (l.getD 0 0 + 1) = l.getD 0 0 + 1 := wrap_in (by omega)
      repeat' (first | with_reducible first | refine kI (by kernel_rfl) ?_ | refine kN (by kernel_rfl) ?_ | simp -implicitDefEqProofs (disch := omega) only [go_sem, Nat.reduceAdd, Nat.reduceSub, reduceCtorEq, Nat.reduceLT, Nat.reduceLeDiff, Nat.reduceEqDiff, Nat.reduceMul, Int.reduceToNat, ↓reduceIte, List.take_of_length_le, if_pos, if_neg, cnE, cnV, Tryz.ntmps217, Tryz.results217,  c0', c1', w1])
    · rw [if_neg c1]
      have c1' : ((l.length : Int) == 1) = false := beq_f (by omega)
      have b0 := smallL_at h2 (k := 0) (by omega)
      have b1 := smallL_at h2 (k := 1) (by omega)
      have b2 := smallL_at h2 (k := l.length - 1) (by omega)
      have w1 : IntKind.i64.wrap (l.getD 1 0 - l.getD 0 0) = l.getD 1 0 - l.getD 0 0 := wrap_in (by omega)
      have w2 : IntKind.i64.wrap (l.getD (l.length - 1) 0 + 1) = l.getD (l.length - 1) 0 + 1 := wrap_in (by omega)
      have w3 : IntKind.i64.wrap (l.getD (l.length - 1) 0 - 1) = l.getD (l.length - 1) 0 - 1 := wrap_in (by omega)
      obtain ⟨n, hn⟩ : ∃ n : Nat, l.length = n + 1 := ⟨l.length - 1, by omega⟩
      have w4 : IntKind.i64.wrap ((l.length : Int) - 1) = ((l.length - 1 : Nat) : Int) := by rw [wrap_in (by omega)]; omega
      by_cases c2 : l.getD 1 0 - l.getD 0 0 < 0
      · rw [if_pos c2]
        repeat' (first | with_reducible first | refine kI (by kernel_rfl) ?_ | refine kN (by kernel_rfl) ?_ | simp -implicitDefEqProofs (disch := omega) only [go_sem, Nat.reduceAdd, Nat.reduceSub, reduceCtorEq, Nat.reduceLT, Nat.reduceLeDiff, Nat.reduceEqDiff, Nat.reduceMul, Int.reduceToNat, ↓reduceIte, List.take_of_length_le, if_pos, if_neg, cnE, cnV, Tryz.ntmps217, Tryz.results217,  c0', c1', w1, w2, w3, w4, c2])
      · rw [if_neg c2]
        repeat' (first | with_reducible first | refine kI (by kernel_rfl) ?_ | refine kN (by kernel_rfl) ?_ | simp -implicitDefEqProofs (disch := omega) only [go_sem, Nat.reduceAdd, Nat.reduceSub, reduceCtorEq, Nat.reduceLT, Nat.reduceLeDiff, Nat.reduceEqDiff, Nat.reduceMul, Int.reduceToNat, ↓reduceIte, List.take_of_length_le, if_pos, if_neg, cnE, cnV, Tryz.ntmps217, Tryz.results217,  c0', c1', w1, w2, w3, w4, c2])
end Go.Proofs.YtkmnepmnjpdpkaaGreatDoor
namespace Go.Proofs.YtkmnepmnjpdpkaaGreatDoor
open Go Go.Ev Go.RowKit Go.Ev.Enc Go.Pl

def slOK (s : Sl) : Bool := inR s.f (-100) 100 && (inR s.t (-100) 100 && (inR s.s (-200) 200 && (!(s.s == 0) && ((s.hf || s.f == 0) && (s.ht || s.t == 0)))))
theorem slOK_b {s : Sl} (h : slOK s = true) : slB s := by
  unfold slOK inR at h
  simp only [Bool.and_eq_true, decide_eq_true_eq] at h
  obtain ⟨h1, h2, h3, _⟩ := h
  exact ⟨⟨by omega, by omega⟩, ⟨by omega, by omega⟩, by omega, by omega⟩
def gValidSl (s : Sl) : Option Bool := gd True (slOK s)
theorem gValidSl_eq (s : Sl) : gValidSl s = some (slOK s) := rfl
set_option maxHeartbeats 4000000 in
set_option maxRecDepth 100000 in
theorem spec_validSlice {Sg : FuncId → Option (List AV → Option AV)} (hS : Sound Tryz.prog Sg) (hr : Sg 100 = some (F3 gInRange)) : ∀ a r, F1 gValidSl a = some r → CSpec Tryz.prog 196 a r := by
  refine F1_spec ?_
  intro s r hr0
  obtain ⟨-, rfl⟩ := gd_some hr0
  refine CSpec.intro Tryz.func196 rfl (own _) (vc3_sound Tryz.pf hS hS _ _ _ ?_)
  have q1 := gInRange_eq s.f (-100) 100
  have q2 := gInRange_eq s.t (-100) 100
  have q3 := gInRange_eq s.s (-200) 200
  unfold slOK
  cases e1 : inR s.f (-100) 100 with
  | false =>
    rw [e1] at q1
    repeat' (first | with_reducible first | refine kI (by kernel_rfl) ?_ | refine kN (by kernel_rfl) ?_ | simp -implicitDefEqProofs (disch := omega) only [go_sem, Nat.reduceAdd, Nat.reduceSub, reduceCtorEq, Nat.reduceLT, Nat.reduceLeDiff, Nat.reduceEqDiff, ↓reduceIte, List.take_of_length_le, if_pos, if_neg, cnE, cnV, Tryz.ntmps196, Tryz.results196,  hr, q1])
    try rfl
  | true =>
    rw [e1] at q1
    cases e2 : inR s.t (-100) 100 with
    | false =>
      rw [e2] at q2
      repeat' (first | with_reducible first | refine kI (by kernel_rfl) ?_ | refine kN (by kernel_rfl) ?_ | simp -implicitDefEqProofs (disch := omega) only [go_sem, Nat.reduceAdd, Nat.reduceSub, reduceCtorEq, Nat.reduceLT, Nat.reduceLeDiff, Nat.reduceEqDiff, ↓reduceIte, List.take_of_length_le, if_pos, if_neg, cnE, cnV, Tryz.ntmps196, Tryz.results196,  hr, q1, q2])
      try rfl
    | true =>
      rw [e2] at q2
      cases e3 : inR s.s (-200) 200 with
      | false =>
        rw [e3] at q3
        repeat' (first | with_reducible first | refine kI (by kernel_rfl) ?_ | refine kN (by kernel_rfl) ?_ | simp -implicitDefEqProofs (disch := omega) only [go_sem, Nat.reduceAdd, Nat.reduceSub, reduceCtorEq, Nat.reduceLT, Nat.reduceLeDiff, Nat.reduceEqDiff, ↓reduceIte, List.take_of_length_le, if_pos, if_neg, cnE, cnV, Tryz.ntmps196, Tryz.results196,  hr, q1, q2, q3])
        try rfl
      | true =>
        rw [e3] at q3
        cases e4 : s.s == 0 with
        | true =>
          repeat' (first | with_reducible first | refine kI (by kernel_rfl) ?_ | refine kN (by kernel_rfl) ?_ | simp -implicitDefEqProofs (disch := omega) only [go_sem, Nat.reduceAdd, Nat.reduceSub, reduceCtorEq, Nat.reduceLT, Nat.reduceLeDiff, Nat.reduceEqDiff, ↓reduceIte, List.take_of_length_le, if_pos, if_neg, cnE, cnV, Tryz.ntmps196, Tryz.results196,  hr, q1, q2, q3, e4])
          try rfl
        | false =>
          cases e5 : s.hf <;> cases e6 : s.ht <;> cases e7 : s.f == 0 <;> cases e8 : s.t == 0
          all_goals
            repeat' (first | with_reducible first | refine kI (by kernel_rfl) ?_ | refine kN (by kernel_rfl) ?_ | simp -implicitDefEqProofs (disch := omega) only [go_sem, Nat.reduceAdd, Nat.reduceSub, reduceCtorEq, Nat.reduceLT, Nat.reduceLeDiff, Nat.reduceEqDiff, ↓reduceIte, List.take_of_length_le, if_pos, if_neg, cnE, cnV, Tryz.ntmps196, Tryz.results196,  hr, q1, q2, q3, e4, e5, e6, e7, e8])
          all_goals try rfl
def gIsDim (v : Vi) (d : Int) : Option Bool := gd (v.sh.length < 4294967296) (inR d 0 (v.sh.length - 1))
theorem gIsDim_eq {v : Vi} (h : v.sh.length < 4294967296) (d : Int) : gIsDim v d = some (inR d 0 (v.sh.length - 1)) := gd_eq h
set_option maxHeartbeats 4000000 in
set_option maxRecDepth 100000 in
theorem spec_isDim {Sg : FuncId → Option (List AV → Option AV)} (hS : Sound Tryz.prog Sg) (hr : Sg 100 = some (F3 gInRange)) : ∀ a r, F2 gIsDim a = some r → CSpec Tryz.prog 195 a r := by
  refine F2_spec ?_
  intro v d r hr0
  obtain ⟨h1, rfl⟩ := gd_some hr0
  refine CSpec.intro Tryz.func195 rfl (own _) (vc3_sound Tryz.pf hS hS _ _ _ ?_)
  have w : IntKind.i64.wrap ((v.sh.length : Int) - 1) = (v.sh.length : Int) - 1 := wrap_in (by omega)
  repeat' (first | with_reducible first | refine kI (by kernel_rfl) ?_ | refine kN (by kernel_rfl) ?_ | simp -implicitDefEqProofs (disch := omega) only [go_sem, Nat.reduceAdd, Nat.reduceSub, reduceCtorEq, Nat.reduceLT, Nat.reduceLeDiff, Nat.reduceEqDiff, ↓reduceIte, List.take_of_length_le, if_pos, if_neg, cnE, cnV, Tryz.ntmps195, Tryz.results195,  w, hr, gInRange_eq])
def upV (n : Nat) : List Int := (List.range n).map fun i : Nat => (i : Int)
theorem upV_len (n : Nat) : (upV n).length = n := by simp [upV]
theorem upV_mem {n : Nat} {x : Int} : x ∈ upV n ↔ 0 ≤ x ∧ x < n := by
  unfold upV
  rw [List.mem_map]
  constructor
  · rintro ⟨i, hi, rfl⟩
    have := List.mem_range.1 hi
    omega
  · intro h
    exact ⟨x.toNat, List.mem_range.2 (by omega), by omega⟩
end Go.Proofs.YtkmnepmnjpdpkaaGreatDoor
namespace Go.Proofs.YtkmnepmnjpdpkaaGreatDoor
open Go Go.Ev Go.RowKit Go.Ev.Enc Go.Pl

abbrev viA (n m : Nat) (v : Vi) : AV := .agg [i64 v.b, .sl n v.sh.length 0 v.sh.length v.sh.length, .sl m v.st.length 0 v.st.length v.st.length]
abbrev viN (v : Vi) : List Blk := [⟨1, v.sh.map fun n => .int .i64 n⟩, ⟨1, v.st.map fun n => .int .i64 n⟩]
theorem own_vi {v : Vi} {b c : Nat} {L : List Blk} (hb : L[b]? = some ⟨1, v.sh.map fun n => .int .i64 n⟩) (hc : L[c]? = some ⟨1, v.st.map fun n => .int .i64 n⟩) (hbc : b ≠ c) :
    OwnQ (fun n => viA n (n + 1) v) (fun _ => viN v) (viA b c v) L := by
  obtain ⟨hb1, hb2⟩ := List.getElem?_eq_some_iff.1 hb
  obtain ⟨hc1, hc2⟩ := List.getElem?_eq_some_iff.1 hc
  refine ⟨[b, c], by simpa using hbc, by simp [hb1, hc1], fun n => ?_, fun n => ?_⟩
  · have : (b == c) = false := by simpa using hbc
    simp [renV, expE, renC, gOf, List.idxOf?_cons, this]
  · simp [renB, expE, renC, hb, hc, Function.comp_def]
def mdR (o : Option Vi) (n : Nat) : AV := match o with
  | some v => .tup [viA n (n + 1) v, .bool true]
  | none => .tup [.agg [i64 0, .nilS, .nilS], .bool false]
def mdN (o : Option Vi) (_ : Nat) : List Blk := match o with
  | some v => viN v
  | none => []
theorem own_md {v : Vi} {b c : Nat} {L : List Blk} (hb : L[b]? = some ⟨1, v.sh.map fun n => .int .i64 n⟩) (hc : L[c]? = some ⟨1, v.st.map fun n => .int .i64 n⟩) (hbc : b ≠ c) :
    OwnQ (mdR (some v)) (mdN (some v)) (.tup [viA b c v, .bool true]) L := by
  obtain ⟨hb1, hb2⟩ := List.getElem?_eq_some_iff.1 hb
  obtain ⟨hc1, hc2⟩ := List.getElem?_eq_some_iff.1 hc
  refine ⟨[b, c], by simpa using hbc, by simp [hb1, hc1], fun n => ?_, fun n => ?_⟩
  · have : (b == c) = false := by simpa using hbc
    simp [mdR, renV, expE, renC, gOf, List.idxOf?_cons, this]
  · simp [mdN, renB, expE, renC, hb, hc, Function.comp_def]
theorem own_md0 {L : List Blk} : OwnQ (mdR none) (mdN none) (.tup [.agg [i64 0, .nilS, .nilS], .bool false]) L :=
  ⟨[], by simp, by simp, fun n => rfl, fun n => rfl⟩
def CopyV : Prop := ∀ l : List Int, l.length ≤ 1048576 → OSpec Tryz.prog 105 [ints 0 l] (fun n => .sl n l.length 0 l.length l.length) (fun _ => [⟨1, l.map fun n => .int .i64 n⟩])
theorem can_copyV : CanCall Tryz.prog 105 := ⟨_, Tryz.func105, rfl, rfl⟩
def viM (v : Vi) : Prop := v.sh.length ≤ 1048576 ∧ v.st.length ≤ 1048576
set_option maxHeartbeats 4000000 in
set_option maxRecDepth 100000 in
theorem o_copyView {Sg : FuncId → Option (List AV → Option AV)} (hS : Sound Tryz.prog Sg) (n1 : Sg 105 = none) (v : Vi) (h : viM v) (hcp : CopyV) : OSpec Tryz.prog 106 [.agg [i64 v.b, ints 0 v.sh, ints 0 v.st]] (fun n => viA n (n + 1) v) (fun _ => viN v) := by
  refine OSpec.intro Tryz.func106 rfl (vc3_sound Tryz.pf hS hS _ _ _ ?_)
  repeat' (first | with_reducible first | refine kI (by kernel_rfl) ?_ | simp -implicitDefEqProofs (disch := omega) only [go_sem, Nat.reduceAdd, Nat.reduceSub, reduceCtorEq, Nat.reduceLT, Nat.reduceLeDiff, Nat.reduceEqDiff, ↓reduceIte, List.take_of_length_le, if_pos, if_neg, cnE, cnV, Tryz.ntmps106, Tryz.results106])
  refine DrawQ.any [([0, 1, 2, 3, 5, 6], 4), ([], 7), ([8], 9)] [] [0, 1, 5, 6] (by kernel_rfl) ?_
  repeat' (first | with_reducible first | refine kI (by kernel_rfl) ?_ | simp -implicitDefEqProofs (disch := omega) only [go_sem, Nat.reduceAdd, Nat.reduceSub, reduceCtorEq, Nat.reduceLT, Nat.reduceLeDiff, Nat.reduceEqDiff, ↓reduceIte, List.take_of_length_le, if_pos, if_neg, cnE, cnV, Tryz.ntmps106, Tryz.results106,  n1, opQ_none])
  refine InlK_intro rfl rfl can_copyV ((hcp v.sh h.1).call (by simp only [go_sem, ints]) ?_)
  repeat' (first | with_reducible first | refine kI (by kernel_rfl) ?_ | simp -implicitDefEqProofs (disch := omega) only [go_sem, Nat.reduceAdd, Nat.reduceSub, reduceCtorEq, Nat.reduceLT, Nat.reduceLeDiff, Nat.reduceEqDiff, ↓reduceIte, List.take_of_length_le, if_pos, if_neg, cnE, cnV, Tryz.ntmps106, Tryz.results106,  n1, opQ_none])
  refine InlK_intro rfl rfl can_copyV ((hcp v.st h.2).call (by simp only [go_sem, ints]) ?_)
  repeat' (first | with_reducible first | refine kI (by kernel_rfl) ?_ | simp -implicitDefEqProofs (disch := omega) only [go_sem, Nat.reduceAdd, Nat.reduceSub, reduceCtorEq, Nat.reduceLT, Nat.reduceLeDiff, Nat.reduceEqDiff, ↓reduceIte, List.take_of_length_le, if_pos, if_neg, cnE, cnV, Tryz.ntmps106, Tryz.results106])
  exact own_vi (b := 2) (c := 3) rfl rfl (by decide)
theorem can_copyView : CanCall Tryz.prog 106 := ⟨_, Tryz.func106, rfl, rfl⟩
def CopyVi : Prop := ∀ v : Vi, viM v → OSpec Tryz.prog 106 [.agg [i64 v.b, ints 0 v.sh, ints 0 v.st]] (fun n => viA n (n + 1) v) (fun _ => viN v)
def madeF (v : Vi) : Option Vi := if viewOK v = true then some v else none
set_option maxHeartbeats 4000000 in
set_option maxRecDepth 100000 in
theorem o_made {Sg : FuncId → Option (List AV → Option AV)} (hS : Sound Tryz.prog Sg) (hv : Sg 148 = some (F1 gValidV)) (n1 : Sg 106 = none) (v : Vi) (h : viM v) (hcv : CopyVi) : OSpec Tryz.prog 197 [.agg [i64 v.b, ints 0 v.sh, ints 0 v.st]] (mdR (madeF v)) (mdN (madeF v)) := by
  refine OSpec.intro Tryz.func197 rfl (vc3_sound Tryz.pf hS hS _ _ _ ?_)
  have q1 := gValidV_eq (v := v) ⟨by have := h.1; omega, by have := h.2; omega⟩
  unfold madeF
  cases e1 : viewOK v with
  | false =>
    rw [e1] at q1
    repeat' (first | with_reducible first | refine kI (by kernel_rfl) ?_ | simp -implicitDefEqProofs (disch := omega) only [go_sem, Nat.reduceAdd, Nat.reduceSub, reduceCtorEq, Nat.reduceLT, Nat.reduceLeDiff, Nat.reduceEqDiff, ↓reduceIte, List.take_of_length_le, if_pos, if_neg, cnE, cnV, Tryz.ntmps197, Tryz.results197,  hv, q1])
    exact own_md0
  | true =>
    rw [e1] at q1
    repeat' (first | with_reducible first | refine kI (by kernel_rfl) ?_ | simp -implicitDefEqProofs (disch := omega) only [go_sem, Nat.reduceAdd, Nat.reduceSub, reduceCtorEq, Nat.reduceLT, Nat.reduceLeDiff, Nat.reduceEqDiff, ↓reduceIte, List.take_of_length_le, if_pos, if_neg, cnE, cnV, Tryz.ntmps197, Tryz.results197,  hv, q1, n1, opQ_none])
    refine InlK_intro rfl rfl can_copyView ((hcv v h).call (by simp only [go_sem, ints]) ?_)
    repeat' (first | with_reducible first | refine kI (by kernel_rfl) ?_ | simp -implicitDefEqProofs (disch := omega) only [go_sem, Nat.reduceAdd, Nat.reduceSub, reduceCtorEq, Nat.reduceLT, Nat.reduceLeDiff, Nat.reduceEqDiff, ↓reduceIte, List.take_of_length_le, if_pos, if_neg, cnE, cnV, Tryz.ntmps197, Tryz.results197])
    exact own_md (b := 2) (c := 3) rfl rfl (by decide)
theorem RetQ.one {L X : List Blk} {K : AV → List Blk → Prop} {rv : AV} (i : Nat) (hi : i < X.length) (hK : K (selV (gR L.length [L.length + i]) (L ++ X) rv) (L ++ [selB (gR L.length [L.length + i]) (L ++ X) (X.getD i ⟨0, []⟩)])) : RetQ L K rv (L ++ X) :=
  ⟨[L.length + i], by simp, by simp; omega, by simp, fun b hb => .inl (List.getElem?_append_left hb), by
    have e : (L ++ X).getD (L.length + i) ⟨0, []⟩ = X.getD i ⟨0, []⟩ := by
      simp only [List.getD_eq_getElem?_getD]
      rw [List.getElem?_append_right (by omega), Nat.add_sub_cancel_left]
    rw [List.map_cons, List.map_nil, e, List.take_left]
    exact hK⟩
abbrev stB (l : List Int) : Blk := ⟨1, l.map fun n => .int .i64 n⟩
def tidyF (v : Vi) : Vi := if prodW v.sh = 0 then ⟨0, v.sh, List.replicate v.sh.length 0⟩ else v
set_option maxHeartbeats 2000000 in
set_option maxRecDepth 100000 in
theorem isp_tidy {Sg : FuncId → Option (List AV → Option AV)} (hS : Sound Tryz.prog Sg) (hct : Sg 172 = some (F1 gCount)) (v : Vi) (b c : Nat) (L : List Blk) (hb : L[b]? = some (stB v.sh)) (hc : L[c]? = some (stB v.st)) (hv : v.sh.length < 4294967296) {m k : Nat} (hm : v.sh.length = m) (hk : v.st.length = k) : ISpec Tryz.prog 220 [.agg [i64 v.b, .sl b m 0 m m, .sl c k 0 k k]] L (fun r L' => ∃ X d, c ≤ d ∧ r = viA b d (tidyF v) ∧ L' = L ++ X ∧ (L ++ X)[b]? = some (stB (tidyF v).sh) ∧ (L ++ X)[d]? = some (stB (tidyF v).st)) := by
  refine ISpec.intro Tryz.func220 rfl (vc_sound Tryz.pf hS _ _ _ ?_)
  subst hm hk
  have hbl := (List.getElem?_eq_some_iff.1 hb).1
  have hcl := (List.getElem?_eq_some_iff.1 hc).1
  have hbx : ∀ X, (L ++ X)[b]? = some (stB v.sh) := fun X => by rw [List.getElem?_append_left hbl]; exact hb
  have hcx : ∀ X, (L ++ X)[c]? = some (stB v.st) := fun X => by rw [List.getElem?_append_left hcl]; exact hc
  have hbt : ∀ X m, b < m → ((L ++ X).take m)[b]? = some (stB v.sh) := fun X m hm => by rw [List.getElem?_take_of_lt hm, hbx]
  have q2 := gCount_eq (l := v.sh) (by omega)
  by_cases e1 : prodW v.sh = 0
  · rw [e1] at q2
    have hn : tidyF v = ⟨0, v.sh, List.replicate v.sh.length 0⟩ := by unfold tidyF; rw [if_pos e1]
    rw [hn]
    repeat' (first | with_reducible first | refine kI (by kernel_rfl) ?_ | refine kN (by kernel_rfl) ?_ | simp -implicitDefEqProofs (disch := omega) only [go_sem, Nat.reduceAdd, Nat.reduceSub, reduceCtorEq, Nat.reduceLT, Nat.reduceLeDiff, Nat.reduceEqDiff, ↓reduceIte, List.take_of_length_le, if_pos, if_neg, cnE, cnV, Tryz.ntmps220, Tryz.results220,  hbt, hbx, hct, q2])
    exact ⟨_, L.length + 2, by omega, by simp only [List.length_replicate, viA], rfl, by rw [List.getElem?_append_right (by omega), Nat.add_sub_cancel_left]; rfl⟩
  · have e1' : (prodW v.sh == 0) = false := beq_f e1
    have hn : tidyF v = v := by unfold tidyF; rw [if_neg e1]
    rw [hn]
    repeat' (first | with_reducible first | refine kI (by kernel_rfl) ?_ | refine kN (by kernel_rfl) ?_ | simp -implicitDefEqProofs (disch := omega) only [go_sem, Nat.reduceAdd, Nat.reduceSub, reduceCtorEq, Nat.reduceLT, Nat.reduceLeDiff, Nat.reduceEqDiff, ↓reduceIte, List.take_of_length_le, if_pos, if_neg, cnE, cnV, Tryz.ntmps220, Tryz.results220,  hbt, hct, q2, e1'])
    exact ⟨_, c, Nat.le_refl _, rfl, rfl, hbx _, hcx _⟩
theorem numL_in {z s : Int} : ∀ (n : Nat) (x y : Int), y ∈ numL z s n x → (0 < s ∧ x ≤ y ∧ y < z) ∨ (s < 0 ∧ z < y ∧ y ≤ x)
  | 0, x, y, h => by simp [numL] at h
  | n + 1, x, y, h => by
    unfold numL at h
    split at h
    · rename_i hg
      unfold goesOn at hg
      rcases List.mem_cons.1 h with rfl | h
      · omega
      · have := numL_in n _ _ h
        omega
    · simp at h
theorem indF_in {n : Int} {s : Sl} (h : 0 ≤ n ∧ n ≤ 100) : ∀ x ∈ indF n s, -1 ≤ x ∧ x ≤ 100 := fun x hx => by
  have h1 := bndF_in (n := n) (i := s.f) (s := s.s) h.1
  have h2 := bndF_in (n := n) (i := s.t) (s := s.s) h.1
  have ha : -1 ≤ (indR n s).a ∧ (indR n s).a ≤ 100 := by
    unfold indR
    simp only
    split
    · omega
    · split <;> omega
  have hz : -1 ≤ (indR n s).z ∧ (indR n s).z ≤ 100 := by
    unfold indR
    simp only
    split
    · omega
    · split <;> omega
  have := numL_in _ _ _ hx
  omega
theorem nrmF_b {l : List Int} (h : ∀ x ∈ l, -1 ≤ x ∧ x ≤ 100) : rgB (nrmF l) := by
  have hk : ∀ k, k < l.length → -1 ≤ l.getD k 0 ∧ l.getD k 0 ≤ 100 := fun k hk => h _ (gmem hk)
  unfold nrmF
  split
  · decide
  · split
    · have := hk 0 (by omega)
      exact ⟨by dsimp only; omega, by dsimp only; omega, by dsimp only; omega⟩
    · have h0 := hk 0 (by omega)
      have h1 := hk 1 (by omega)
      have h2 := hk (l.length - 1) (by omega)
      refine ⟨by dsimp only; omega, ?_, by dsimp only; omega⟩
      dsimp only
      split <;> omega
def cutG (v : Vi) (d : Nat) (r : Rg) : Vi := ⟨IntKind.i64.wrap (v.b + IntKind.i64.wrap (r.a * v.st.getD d 0)), v.sh.set d (numF r).length, v.st.set d (if (numF r).length ≤ 1 then 0 else IntKind.i64.wrap (r.s * v.st.getD d 0))⟩
def cutF (v : Vi) (d : Nat) (s : Sl) : Vi := tidyF (cutG v d (nrmF (indF (v.sh.getD d 0) s)))
theorem can_tidy : CanCall Tryz.prog 220 := ⟨_, Tryz.func220, rfl, rfl⟩
theorem map_setI (l : List Int) (d : Nat) (x : Int) : (l.map fun n => AV.int .i64 n).set d (.int .i64 x) = (l.set d x).map fun n => .int .i64 n := by rw [List.map_set]
theorem getD_setI {l : List Int} {d : Nat} {x : Int} (h : d < l.length) : ((l.set d x).map fun n => AV.int .i64 n).getD d .any = .int .i64 x := by
  rw [getD_ints (by rw [List.length_set]; exact h)]; simp [h]
abbrev slA (s : Sl) : AV := .agg [i64 s.f, i64 s.t, i64 s.s, .bool s.hf, .bool s.ht]
set_option maxHeartbeats 4000000 in
set_option maxRecDepth 100000 in
theorem o_cutDim {Sg : FuncId → Option (List AV → Option AV)} (hS : Sound Tryz.prog Sg) (hi : Sg 218 = some (F2 gIndices)) (hn : Sg 217 = some (F1 gNormal)) (hm : Sg 219 = some (F1 gNumbers)) (hct : Sg 172 = some (F1 gCount)) (n1 : Sg 106 = none) (n2 : Sg 220 = none) (v : Vi) (d : Nat) (s : Sl) (h : v.sh.length ≤ 1000 ∧ v.st.length = v.sh.length) (hd : d < v.sh.length) (hx : 0 ≤ v.sh.getD d 0 ∧ v.sh.getD d 0 ≤ 100) (hs : slB s) (hcv : CopyVi) : OSpec Tryz.prog 198 [.agg [i64 v.b, ints 0 v.sh, ints 0 v.st], i64 (d : Nat), slA s] (fun n => viA n (n + 1) (cutF v d s)) (fun _ => viN (cutF v d s)) := by
  refine OSpec.intro Tryz.func198 rfl (vc3_sound Tryz.pf hS hS _ _ _ ?_)
  have q1 := gIndices_eq (n := v.sh.getD d 0) (s := s) ⟨hx, hs⟩
  have hin := indF_in (n := v.sh.getD d 0) (s := s) hx
  have hlen : (indF (v.sh.getD d 0) s).length ≤ 2000 := numF_len (indR_b hx hs)
  obtain ⟨I, hI⟩ : ∃ I, indF (v.sh.getD d 0) s = I := ⟨_, rfl⟩
  rw [hI] at q1 hin hlen
  have q2 := gNormal_eq (l := I) ⟨by omega, fun x hx => by have := hin x hx; omega⟩
  have hrb := nrmF_b hin
  have q3 := gNumbers_eq hrb
  have hll := numF_len hrb
  have hcf : cutF v d s = tidyF (cutG v d (nrmF I)) := by unfold cutF; rw [hI]
  rw [hcf]
  generalize hR : nrmF I = R at *
  have hds : d < v.st.length := by omega
  repeat' (first | with_reducible first | refine kI (by kernel_rfl) ?_ | simp -implicitDefEqProofs (disch := omega) only [go_sem, Nat.reduceAdd, Nat.reduceSub, reduceCtorEq, Nat.reduceLT, Nat.reduceLeDiff, Nat.reduceEqDiff, ↓reduceIte, List.take_of_length_le, if_pos, if_neg, cnE, cnV, Tryz.ntmps198, Tryz.results198,  n1, opQ_none])
  refine InlK_intro rfl rfl can_copyView ((hcv v ⟨by omega, by omega⟩).call (by simp only [go_sem, ints]) ?_)
  repeat' (first | with_reducible first | refine kI (by kernel_rfl) ?_ | simp -implicitDefEqProofs (disch := omega) only [go_sem, Nat.reduceAdd, Nat.reduceSub, reduceCtorEq, Nat.reduceLT, Nat.reduceLeDiff, Nat.reduceEqDiff, ↓reduceIte, List.take_of_length_le, if_pos, if_neg, cnE, cnV, Tryz.ntmps198, Tryz.results198])
  refine DrawQ.any [([0, 1, 2, 3, 4, 5, 6, 7, 8], 9)] [] [] (by kernel_rfl) ?_
  repeat' (first | with_reducible first | refine kI (by kernel_rfl) ?_ | simp -implicitDefEqProofs (disch := omega) only [go_sem, Nat.reduceAdd, Nat.reduceSub, reduceCtorEq, Nat.reduceLT, Nat.reduceLeDiff, Nat.reduceEqDiff, ↓reduceIte, List.take_of_length_le, if_pos, if_neg, cnE, cnV, Tryz.ntmps198, Tryz.results198,  hi, q1, hn, q2, hm, q3, map_setI])
  refine DrawQ.any [([0, 1, 2, 3, 4, 5, 6, 7, 8, 9, 10, 11], 12)] [] [] (by kernel_rfl) ?_
  repeat' (first | with_reducible first | refine kI (by kernel_rfl) ?_ | (first | refine kB1 ?_ ?_ | refine kB2 ?_ ?_) <;> intro hp | (first | refine kD1 ?_ ?_ | refine kD2 ?_ ?_ | refine kS1 ?_ ?_ | refine kS2 ?_ ?_) <;> intro hp <;> try simp only [hp] | simp -implicitDefEqProofs (disch := omega) only [go_sem, Nat.reduceAdd, Nat.reduceSub, reduceCtorEq, Nat.reduceLT, Nat.reduceLeDiff, Nat.reduceEqDiff, ↓reduceIte, List.take_of_length_le, if_pos, if_neg, cnE, cnV, Tryz.ntmps198, Tryz.results198])
  refine DrawQ.any [([0, 1, 2, 3, 4, 5, 6, 7, 8, 9, 10, 11], 12)] [] [] (by kernel_rfl) ?_
  have hg := fun x => getD_setI (l := v.st) (d := d) (x := x) hds
  have hcl : (cutG v d R).sh.length = v.sh.length := List.length_set
  have hcs : (cutG v d R).st.length = v.st.length := List.length_set
  repeat' (first | with_reducible first | refine kI (by kernel_rfl) ?_ | (first | refine kB1 ?_ ?_ | refine kB2 ?_ ?_) <;> intro hp | (first | refine kD1 ?_ ?_ | refine kD2 ?_ ?_ | refine kS1 ?_ ?_ | refine kS2 ?_ ?_) <;> intro hp <;> try simp only [hp] | simp -implicitDefEqProofs (disch := omega) only [go_sem, Nat.reduceAdd, Nat.reduceSub, reduceCtorEq, Nat.reduceLT, Nat.reduceLeDiff, Nat.reduceEqDiff, ↓reduceIte, List.take_of_length_le, if_pos, if_neg, cnE, cnV, Tryz.ntmps198, Tryz.results198,  map_setI, hg, List.set_set, n2, opQ_none])
  all_goals
    refine InlK_intro rfl rfl can_tidy ((isp_tidy hS hct (cutG v d R) 3 4 _ rfl (by unfold cutG; first | rw [if_pos (by omega)]; rfl | rw [if_neg (by omega)]; rfl) (by omega) hcl hcs).mono ?_)
    rintro r L1 ⟨X, c, k1, rfl, rfl, k2, k3⟩
    repeat' (first | with_reducible first | refine kI (by kernel_rfl) ?_ | (first | refine kB1 ?_ ?_ | refine kB2 ?_ ?_) <;> intro hp | (first | refine kD1 ?_ ?_ | refine kD2 ?_ ?_ | refine kS1 ?_ ?_ | refine kS2 ?_ ?_) <;> intro hp <;> try simp only [hp] | simp -implicitDefEqProofs (disch := omega) only [go_sem, Nat.reduceAdd, Nat.reduceSub, reduceCtorEq, Nat.reduceLT, Nat.reduceLeDiff, Nat.reduceEqDiff, ↓reduceIte, List.take_of_length_le, if_pos, if_neg, cnE, cnV, Tryz.ntmps198, Tryz.results198])
    obtain ⟨c', rfl⟩ : ∃ c', c = c' + 4 := ⟨c - 4, by omega⟩
    exact own_vi (b := 3) (c := c' + 4) k2 k3 (by omega)
end Go.Proofs.YtkmnepmnjpdpkaaGreatDoor
namespace Go.Proofs.YtkmnepmnjpdpkaaGreatDoor
open Go Go.Ev Go.RowKit Go.Ev.Enc Go.Pl

theorem can_cutDim : CanCall Tryz.prog 198 := ⟨_, Tryz.func198, rfl, rfl⟩
theorem can_made : CanCall Tryz.prog 197 := ⟨_, Tryz.func197, rfl, rfl⟩
def CutV : Prop := ∀ (v : Vi) (d : Nat) (s : Sl), v.sh.length ≤ 1000 ∧ v.st.length = v.sh.length → d < v.sh.length → 0 ≤ v.sh.getD d 0 ∧ v.sh.getD d 0 ≤ 100 → slB s → OSpec Tryz.prog 198 [.agg [i64 v.b, ints 0 v.sh, ints 0 v.st], i64 (d : Nat), slA s] (fun n => viA n (n + 1) (cutF v d s)) (fun _ => viN (cutF v d s))
def MadeV : Prop := ∀ v : Vi, viM v → OSpec Tryz.prog 197 [.agg [i64 v.b, ints 0 v.sh, ints 0 v.st]] (mdR (madeF v)) (mdN (madeF v))
theorem madeF_ok {v w : Vi} (h : madeF v = some w) : viewOK w = true := by
  unfold madeF at h
  split at h
  · cases h; assumption
  · cases h
theorem tidyF_len (v : Vi) : (tidyF v).sh.length = v.sh.length ∧ ((tidyF v).st.length = v.sh.length ∨ (tidyF v).st.length = v.st.length) := by
  unfold tidyF
  split <;> simp
theorem cutF_len (v : Vi) (d : Nat) (s : Sl) : (cutF v d s).sh.length = v.sh.length ∧ ((cutF v d s).st.length = v.sh.length ∨ (cutF v d s).st.length = v.st.length) := by
  have := tidyF_len (cutG v d (nrmF (indF (v.sh.getD d 0) s)))
  unfold cutF
  simp only [cutG, List.length_set] at this ⊢
  exact this
def sliF (v : Vi) (d : Int) (s : Sl) : Option Vi := if viewOK v = true ∧ inR d 0 (v.sh.length - 1) = true ∧ slOK s = true then madeF (cutF v d.toNat s) else none
theorem dim_at {v : Vi} (h : viewOK v = true) {d : Nat} (hd : d < v.sh.length) : 0 ≤ v.sh.getD d 0 ∧ v.sh.getD d 0 ≤ 100 := by
  obtain ⟨h1, _⟩ := viewOK_iff.1 h
  have := (shape_facts h1).2.1 _ (gmem hd)
  omega
theorem can_SliceDim : CanCall Tryz.prog 168 := ⟨_, Tryz.func168, rfl, rfl⟩
set_option maxHeartbeats 4000000 in
set_option maxRecDepth 100000 in
theorem o_SliceDim {Sg : FuncId → Option (List AV → Option AV)} (hS : Sound Tryz.prog Sg) (hv : Sg 148 = some (F1 gValidV)) (hi : Sg 195 = some (F2 gIsDim)) (hl : Sg 196 = some (F1 gValidSl)) (n1 : Sg 198 = none) (n2 : Sg 197 = none) (v : Vi) (d : Int) (s : Sl) (h : v.sh.length ≤ 4 ∧ v.st.length ≤ 5) (hcut : CutV) (hmade : MadeV) : OSpec Tryz.prog 168 [.agg [i64 v.b, ints 0 v.sh, ints 0 v.st], i64 d, slA s] (mdR (sliF v d s)) (mdN (sliF v d s)) := by
  refine OSpec.intro Tryz.func168 rfl (vc3_sound Tryz.pf hS hS _ _ _ ?_)
  have q1 := gValidV_eq (v := v) ⟨by omega, by omega⟩
  have q2 := gIsDim_eq (v := v) (by omega) d
  have q3 := gValidSl_eq s
  unfold sliF
  cases e1 : viewOK v with
  | false =>
    rw [e1] at q1
    repeat' (first | with_reducible first | refine kI (by kernel_rfl) ?_ | simp -implicitDefEqProofs (disch := omega) only [go_sem, Nat.reduceAdd, Nat.reduceSub, reduceCtorEq, Nat.reduceLT, Nat.reduceLeDiff, Nat.reduceEqDiff, ↓reduceIte, List.take_of_length_le, if_pos, if_neg, cnE, cnV, Tryz.ntmps168, Tryz.results168,  hv, q1])
    exact own_md0
  | true =>
    rw [e1] at q1
    cases e0 : inR d 0 (v.sh.length - 1) with
    | false =>
      rw [e0] at q2
      repeat' (first | with_reducible first | refine kI (by kernel_rfl) ?_ | simp -implicitDefEqProofs (disch := omega) only [go_sem, Nat.reduceAdd, Nat.reduceSub, reduceCtorEq, Nat.reduceLT, Nat.reduceLeDiff, Nat.reduceEqDiff, ↓reduceIte, List.take_of_length_le, if_pos, if_neg, cnE, cnV, Tryz.ntmps168, Tryz.results168,  hv, q1, hi, q2])
      exact own_md0
    | true =>
      rw [e0] at q2
      cases e2 : slOK s with
      | false =>
        rw [e2] at q3
        repeat' (first | with_reducible first | refine kI (by kernel_rfl) ?_ | simp -implicitDefEqProofs (disch := omega) only [go_sem, Nat.reduceAdd, Nat.reduceSub, reduceCtorEq, Nat.reduceLT, Nat.reduceLeDiff, Nat.reduceEqDiff, ↓reduceIte, List.take_of_length_le, if_pos, if_neg, cnE, cnV, Tryz.ntmps168, Tryz.results168,  hv, q1, hi, q2, hl, q3])
        exact own_md0
      | true =>
        rw [e2] at q3
        obtain ⟨k1, k2, _⟩ := viewOK_iff.1 e1
        unfold inR at e0
        simp only [Bool.and_eq_true, decide_eq_true_eq] at e0
        obtain ⟨d, rfl⟩ : ∃ m : Nat, d = m := ⟨d.toNat, by omega⟩
        have hd : d < v.sh.length := by omega
        clear e0
        repeat' (first | with_reducible first | refine kI (by kernel_rfl) ?_ | simp -implicitDefEqProofs (disch := omega) only [go_sem, Nat.reduceAdd, Nat.reduceSub, reduceCtorEq, Nat.reduceLT, Nat.reduceLeDiff, Nat.reduceEqDiff, ↓reduceIte, List.take_of_length_le, if_pos, if_neg, cnE, cnV, Tryz.ntmps168, Tryz.results168,  hv, q1, hi, q2, hl, q3, n1, opQ_none])
        refine InlK_intro rfl rfl can_cutDim ((hcut v d s ⟨by omega, k2⟩ hd (dim_at e1 hd) (slOK_b e2)).call (by simp only [go_sem, ints]) ?_)
        repeat' (first | with_reducible first | refine kI (by kernel_rfl) ?_ | simp -implicitDefEqProofs (disch := omega) only [go_sem, Nat.reduceAdd, Nat.reduceSub, reduceCtorEq, Nat.reduceLT, Nat.reduceLeDiff, Nat.reduceEqDiff, ↓reduceIte, List.take_of_length_le, if_pos, if_neg, cnE, cnV, Tryz.ntmps168, Tryz.results168,  n2, opQ_none])
        have hcl := cutF_len v d s
        obtain ⟨w, hw⟩ : ∃ w, cutF v d s = w := ⟨_, rfl⟩
        rw [hw] at hcl ⊢
        refine InlK_intro rfl rfl can_made ((hmade w ⟨by omega, by omega⟩).call (by simp only [go_sem, ints]) ?_)
        cases e3 : madeF w with
        | none =>
          repeat' (first | with_reducible first | refine kI (by kernel_rfl) ?_ | simp -implicitDefEqProofs (disch := omega) only [go_sem, Nat.reduceAdd, Nat.reduceSub, reduceCtorEq, Nat.reduceLT, Nat.reduceLeDiff, Nat.reduceEqDiff, ↓reduceIte, List.take_of_length_le, if_pos, if_neg, cnE, cnV, Tryz.ntmps168, Tryz.results168,  mdR, mdN])
          exact own_md0
        | some u =>
          repeat' (first | with_reducible first | refine kI (by kernel_rfl) ?_ | simp -implicitDefEqProofs (disch := omega) only [go_sem, Nat.reduceAdd, Nat.reduceSub, reduceCtorEq, Nat.reduceLT, Nat.reduceLeDiff, Nat.reduceEqDiff, ↓reduceIte, List.take_of_length_le, if_pos, if_neg, cnE, cnV, Tryz.ntmps168, Tryz.results168,  mdR, mdN])
          exact own_md (b := 5) (c := 6) rfl rfl (by decide)
def SliV : Prop := ∀ (v : Vi) (d : Int) (s : Sl), v.sh.length ≤ 4 ∧ v.st.length ≤ 5 → OSpec Tryz.prog 168 [.agg [i64 v.b, ints 0 v.sh, ints 0 v.st], i64 d, slA s] (mdR (sliF v d s)) (mdN (sliF v d s))
def flipS : Sl := ⟨0, 0, -1, false, false⟩
theorem take_snocI {o : List Int} {k : Nat} (h : k < o.length) : o.take (k + 1) = o.take k ++ [o.getD k 0] := by
  rw [List.take_succ_eq_append_getElem h]; simp [h]
end Go.Proofs.YtkmnepmnjpdpkaaGreatDoor
namespace Go.Proofs.YtkmnepmnjpdpkaaGreatDoor
open Go Go.Ev Go.RowKit Go.Ev.Enc Go.Pl

end Go.Proofs.YtkmnepmnjpdpkaaGreatDoor
