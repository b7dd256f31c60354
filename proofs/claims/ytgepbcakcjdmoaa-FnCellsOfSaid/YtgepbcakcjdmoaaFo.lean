/- Contracts of functions that the laws of this seat call. -/
import Derived.Test.YtgepbcakcjdmoaaFn
set_option linter.all false
namespace Go.Proofs.Ytgepbcakcjdmoaa
open Go Go.Ev Go.RowKit Go.Ev.Enc Go.Pl

theorem gTakenOf_eq {e l : List Int} (h : l.length < 4294967296 ∧ ∀ i, i < l.length → 0 ≤ l.getD i 0 ∧ l.getD i 0 < e.length) : gTakenOf e l = some (tkn e l) := gd_eq h
/-- the numbers of a rank: from the last one on -/
def unrR : List Int → Int → List Int
  | [], _ => []
  | d :: r, k => k.tmod d :: unrR r (k.tdiv d)
def unrF (s : List Int) (k : Int) : List Int := (unrR s.reverse k).reverse
theorem unrR_len : ∀ (s : List Int) (k : Int), (unrR s k).length = s.length
  | [], _ => rfl
  | d :: r, k => by simp [unrR, unrR_len r]
theorem unrF_len (s : List Int) (k : Int) : (unrF s k).length = s.length := by simp [unrF, unrR_len]
def divR : List Int → Int → Int
  | [], k => k
  | d :: r, k => divR r (k.tdiv d)
theorem unrR_app : ∀ (s t : List Int) (k : Int), unrR (s ++ t) k = unrR s k ++ unrR t (divR s k)
  | [], t, k => rfl
  | d :: r, t, k => by simp [unrR, divR, unrR_app r t]
theorem divR_app : ∀ (s t : List Int) (k : Int), divR (s ++ t) k = divR t (divR s k)
  | [], t, k => rfl
  | d :: r, t, k => by simp [divR, divR_app r t]
def gUnrank (s : List Int) (k : Int) : Option (List Int) := gd (s.length < 4294967296 ∧ (0 ≤ k ∧ k ≤ 9223372036854775807) ∧ ∀ i, i < s.length → 1 ≤ s.getD i 0) (unrF s k)
theorem gUnrank_eq {s : List Int} {k : Int} (h : s.length < 4294967296 ∧ (0 ≤ k ∧ k ≤ 9223372036854775807) ∧ ∀ i, i < s.length → 1 ≤ s.getD i 0) : gUnrank s k = some (unrF s k) := gd_eq h
theorem divR_nn : ∀ (s : List Int) (k : Int), (∀ d ∈ s, 1 ≤ d) → 0 ≤ k → 0 ≤ divR s k ∧ divR s k ≤ k
  | [], k, _, h => ⟨h, Int.le_refl _⟩
  | d :: r, k, hs, h => by
    have hd := hs d (by simp)
    have h1 : 0 ≤ k.tdiv d := Int.tdiv_nonneg h (by omega)
    have h2 : k.tdiv d ≤ k := by rw [Int.tdiv_eq_ediv_of_nonneg h]; exact Int.ediv_le_self _ h
    have := divR_nn r (k.tdiv d) (fun x hx => hs x (by simp [hx])) h1
    exact ⟨this.1, by unfold divR; omega⟩
/-- a list that is filled from its end on: m numbers are still to come -/
def fromEnd (l : List Int) (m : Nat) : List Int := List.replicate m 0 ++ l.drop m
theorem fromEnd_len {l : List Int} {m : Nat} (h : m ≤ l.length) : (fromEnd l m).length = l.length := by simp [fromEnd]; omega
theorem fromEnd_set {l : List Int} {m : Nat} (h : m < l.length) : (fromEnd l (m + 1)).set m (l.getD m 0) = fromEnd l m := by
  unfold fromEnd
  rw [List.replicate_succ', List.append_assoc, List.set_append_right _ _ (by simp), drop_getD (d := 0) h]
  simp
theorem rev_drop {s : List Int} {m : Nat} (h : m < s.length) : s.reverse.take (s.length - m) = s.reverse.take (s.length - (m + 1)) ++ [s.getD m 0] := by
  rw [show s.length - m = (s.length - (m + 1)) + 1 by omega, List.take_succ_eq_append_getElem (by simp; omega)]
  congr 1
  simp [h]
  congr 1
  omega
theorem unrF_at {s : List Int} {k : Int} {m : Nat} (h : m < s.length) : (unrF s k).getD m 0 = (divR (s.reverse.take (s.length - (m + 1))) k).tmod (s.getD m 0) := by
  unfold unrF
  have hl := unrR_len s.reverse k
  rw [List.length_reverse] at hl
  have e : (unrR s.reverse k).reverse.getD m 0 = (unrR s.reverse k).getD (s.length - (m + 1)) 0 := by
    simp only [List.getD_eq_getElem?_getD]
    rw [List.getElem?_reverse (by omega), hl]
    congr 2; omega
  rw [e]
  have hs : s.reverse = s.reverse.take (s.length - (m + 1)) ++ s.getD m 0 :: s.reverse.drop (s.length - m) := by
    have h1 := rev_drop h
    have h2 := List.take_append_drop (s.length - m) s.reverse
    rw [h1, List.append_assoc] at h2
    exact h2.symm
  conv => lhs; rw [hs]
  rw [unrR_app]
  have hl2 : (unrR (s.reverse.take (s.length - (m + 1))) k).length = s.length - (m + 1) := by rw [unrR_len]; simp
  rw [List.getD_eq_getElem?_getD, List.getElem?_append_right (by omega), hl2, Nat.sub_self]
  rfl
set_option maxHeartbeats 2000000 in
set_option maxRecDepth 100000 in
theorem spec_unrank {Sg : FuncId → Option (List AV → Option AV)} (hS : Sound Try.prog Sg) : ∀ a r, F2 gUnrank a = some r → CSpec Try.prog 103 a r := by
  refine spec2 Try.func103 rfl Try.pf hS ?_
  intro s k r hr
  obtain ⟨⟨h1, ⟨h2, h2'⟩, h3⟩, rfl⟩ := gd_some hr
  have hall : ∀ m, ∀ d ∈ s.reverse.take m, 1 ≤ d := fun m d hd => by
    have := List.mem_of_mem_take hd
    rw [List.mem_reverse] at this
    obtain ⟨i, hi, rfl⟩ := List.mem_iff_getElem.1 this
    have := h3 i hi
    simpa [hi] using this
  have hul := unrF_len s k
  repeat' (first | with_reducible refine RegQ.intro (by kernel_rfl) ?_ | ((with_reducible refine condQ_dec (fun hp => ?_) (fun hp => ?_)) <;> try simp only [hp]) | with_reducible refine condQ_beq (fun hp => ?_) (fun hp => ?_) | ((with_reducible refine wantQ_dec (fun hp => ?_) (fun hp => ?_)) <;> try simp only [hp]) | with_reducible refine wantQ_beq (fun hp => ?_) (fun hp => ?_) | ((with_reducible refine condQ_split (fun hp => ?_) (fun hp => ?_)) <;> try simp only [hp]) | ((with_reducible refine wantQ_split (fun hp => ?_) (fun hp => ?_)) <;> try simp only [hp]) | simp -implicitDefEqProofs (disch := omega) only [go_sem, Nat.reduceAdd, Nat.reduceSub, reduceCtorEq, Nat.reduceLT, Nat.reduceLeDiff, Nat.reduceEqDiff, Nat.reduceMul, Int.reduceToNat, ↓reduceIte, List.take_of_length_le, evApp_n1, evApp_i0, evApp_i1, evApp_i2, evApp_i3, evApp_i4, evApp_i5, evApp_s0, evApp_s1, evApp_s2, evApp_s3, if_pos, if_neg, decide_eq_true, decide_eq_false, beq_t, beq_f, wrap_succ, wrap_in, getD_ints, getD_intss, getD_tsrs, fillA_len, fillA_at, fillA_full, evApp_z0, evApp_z1, evApp_z2, evApp_z3, Try.ntmps103, Try.results103])
  refine LoopQ.mix (fun t0 L0 nn ss => ∃ (m : Nat) (c : Int) (_ : Unit), (∃ x : Nat → AV, ss = ⟨mixL 0 (.k :: .v (i64 c) :: .k :: .k :: .k :: .k :: .v (i64 ((m : Nat) - 1)) :: .k :: .k :: .k :: .k :: .k :: .k :: .s :: .s :: .s :: .s :: .s :: .s :: .s :: .s :: .s :: .s :: .s :: .s :: .s :: .s :: .s :: .s :: .s :: .s :: .s :: .k :: []) t0 x, [⟨1, (fromEnd (unrF s k) m).map fun n => .int .i64 n⟩]⟩) ∧ (m ≤ s.length) ∧ (c = divR (s.reverse.take (s.length - m)) k) ∧ nn = m + 1) ?_ ?_
  · exact ⟨_, ⟨s.length, k, (), mixJ rfl (by rw [fromEnd, List.drop_of_length_le (by omega), List.append_nil]), Nat.le_refl _, by rw [Nat.sub_self]; rfl, rfl⟩⟩
  · rintro I0 hI0 n ss ⟨m, c, _, ⟨x, rfl⟩, g1, g2, rfl⟩
    have hc := divR_nn (s.reverse.take (s.length - m)) k (hall _) h2
    rw [← g2] at hc
    match m, g1 with
    | 0, _ =>
      have h0 : fromEnd (unrF s k) 0 = unrF s k := by simp [fromEnd]
      rw [h0]
      repeat' (first | with_reducible refine RegQ.intro (by kernel_rfl) ?_ | ((with_reducible refine condQ_dec (fun hp => ?_) (fun hp => ?_)) <;> try simp only [hp]) | with_reducible refine condQ_beq (fun hp => ?_) (fun hp => ?_) | ((with_reducible refine wantQ_dec (fun hp => ?_) (fun hp => ?_)) <;> try simp only [hp]) | with_reducible refine wantQ_beq (fun hp => ?_) (fun hp => ?_) | ((with_reducible refine condQ_split (fun hp => ?_) (fun hp => ?_)) <;> try simp only [hp]) | ((with_reducible refine wantQ_split (fun hp => ?_) (fun hp => ?_)) <;> try simp only [hp]) | simp -implicitDefEqProofs (disch := omega) only [go_sem, Nat.reduceAdd, Nat.reduceSub, reduceCtorEq, Nat.reduceLT, Nat.reduceLeDiff, Nat.reduceEqDiff, Nat.reduceMul, Int.reduceToNat, ↓reduceIte, List.take_of_length_le, evApp_n1, evApp_i0, evApp_i1, evApp_i2, evApp_i3, evApp_i4, evApp_i5, evApp_s0, evApp_s1, evApp_s2, evApp_s3, if_pos, if_neg, decide_eq_true, decide_eq_false, beq_t, beq_f, wrap_succ, wrap_in, getD_ints, getD_intss, getD_tsrs, fillA_len, fillA_at, fillA_full, evApp_z0, evApp_z1, evApp_z2, evApp_z3, Try.ntmps103, Try.results103])
    | m + 1, hm =>
      have h4 := h3 m hm
      have ht := fromEnd_len (l := unrF s k) (m := m + 1) (by omega)
      have hs := fromEnd_set (l := unrF s k) (m := m) (by omega)
      have hv := unrF_at (k := k) hm
      rw [← g2] at hv
      rw [hv] at hs
      have hd : divR (s.reverse.take (s.length - m)) k = c.tdiv (s.getD m 0) := by rw [rev_drop hm, divR_app, ← g2]; rfl
      have h5 : 0 ≤ c.tdiv (s.getD m 0) := Int.tdiv_nonneg hc.1 (by omega)
      have h6 : c.tdiv (s.getD m 0) ≤ c := by rw [Int.tdiv_eq_ediv_of_nonneg hc.1]; exact Int.ediv_le_self _ hc.1
      have e1 : (((m + 1 : Nat) : Int) - 1) = (m : Int) := by omega
      rw [e1]
      have h7 : ¬ s.getD m 0 = 0 := by omega
      repeat' (first | with_reducible refine RegQ.intro (by kernel_rfl) ?_ | ((with_reducible refine condQ_dec (fun hp => ?_) (fun hp => ?_)) <;> try simp only [hp]) | with_reducible refine condQ_beq (fun hp => ?_) (fun hp => ?_) | ((with_reducible refine wantQ_dec (fun hp => ?_) (fun hp => ?_)) <;> try simp only [hp]) | with_reducible refine wantQ_beq (fun hp => ?_) (fun hp => ?_) | ((with_reducible refine condQ_split (fun hp => ?_) (fun hp => ?_)) <;> try simp only [hp]) | ((with_reducible refine wantQ_split (fun hp => ?_) (fun hp => ?_)) <;> try simp only [hp]) | simp -implicitDefEqProofs (disch := omega) only [go_sem, Nat.reduceAdd, Nat.reduceSub, reduceCtorEq, Nat.reduceLT, Nat.reduceLeDiff, Nat.reduceEqDiff, Nat.reduceMul, Int.reduceToNat, ↓reduceIte, List.take_of_length_le, evApp_n1, evApp_i0, evApp_i1, evApp_i2, evApp_i3, evApp_i4, evApp_i5, evApp_s0, evApp_s1, evApp_s2, evApp_s3, if_pos, if_neg, decide_eq_true, decide_eq_false, beq_t, beq_f, wrap_succ, wrap_in, getD_ints, getD_intss, getD_tsrs, fillA_len, fillA_at, fillA_full, evApp_z0, evApp_z1, evApp_z2, evApp_z3, Try.ntmps103, Try.results103, hs, ht, set_ints])
      exact ⟨m + 1, by omega, hI0 _ _ ⟨m, _, (), mixI rfl, by omega, hd.symm, rfl⟩⟩

/-! ### the contraction -/
def termS (l : List Tsr) (b : List (List Int)) (al : List Int) : Nat → Int
  | 0 => 1
  | k + 1 => IntKind.i64.wrap (termS l b al k * (l.getD k ⟨[], []⟩).vl.getD (rankW (l.getD k ⟨[], []⟩).sh (tkn al (b.getD k [])) (l.getD k ⟨[], []⟩).sh.length).toNat 0)
def addAt (v : List Int) (r x : Int) : List Int := v.set r.toNat (IntKind.i64.wrap (v.getD r.toNat 0 + x))
def stepS (l : List Tsr) (b : List (List Int)) (out sh al v : List Int) : List Int := addAt v (rankW sh (tkn al out) sh.length) (termS l b al l.length)
theorem stepS_len (l : List Tsr) (b : List (List Int)) (out sh al v : List Int) : (stepS l b out sh al v).length = v.length := by simp [stepS, addAt]
def contrV (l : List Tsr) (b : List (List Int)) (out sh s5 : List Int) : Nat → List Int
  | 0 => List.replicate (prodW sh).toNat 0
  | k + 1 => stepS l b out sh (unrF s5 k) (contrV l b out sh s5 k)
theorem contrV_len (l : List Tsr) (b : List (List Int)) (out sh s5 : List Int) : ∀ k, (contrV l b out sh s5 k).length = (prodW sh).toNat
  | 0 => by simp [contrV]
  | k + 1 => by rw [contrV, stepS_len, contrV_len l b out sh s5 k]
/-- what the code asks of the numbers at which it looks -/
def okAt (l : List Tsr) (b : List (List Int)) (out sh al : List Int) : Prop :=
  (∀ k, k < l.length → (l.getD k ⟨[], []⟩).sh.length ≤ (b.getD k []).length ∧ 0 ≤ rankW (l.getD k ⟨[], []⟩).sh (tkn al (b.getD k [])) (l.getD k ⟨[], []⟩).sh.length ∧ rankW (l.getD k ⟨[], []⟩).sh (tkn al (b.getD k [])) (l.getD k ⟨[], []⟩).sh.length < (l.getD k ⟨[], []⟩).vl.length) ∧
  0 ≤ rankW sh (tkn al out) sh.length ∧ rankW sh (tkn al out) sh.length < (prodW sh).toNat
def contrB (l : List Tsr) (b : List (List Int)) (out e : List Int) : Prop :=
  (szOK l b ∧ b.length = l.length ∧ out.length < 4294967296 ∧ e.length = 5) ∧ labsIn b ∧ labOK out = true ∧ (0 ≤ prodW (tkn e out) ∧ prodW (tkn e out) ≤ 1048576) ∧ (0 ≤ prodW (e.map pos1) ∧ prodW (e.map pos1) ≤ 1048576) ∧
  (0 < prodW (e.map pos1) → (∀ i, i < 5 → 1 ≤ (e.map pos1).getD i 0) ∧ ∀ k : Nat, (k : Int) < prodW (e.map pos1) → okAt l b out (tkn e out) (unrF (e.map pos1) k))
open Classical in
noncomputable def gContracted (l : List Tsr) (b : List (List Int)) (out e : List Int) : Option Tsr := if contrB l b out e then some ⟨tkn e out, contrV l b out (tkn e out) (e.map pos1) (prodW (e.map pos1)).toNat⟩ else none
theorem gContracted_eq {l : List Tsr} {b : List (List Int)} {out e : List Int} (h : contrB l b out e) : gContracted l b out e = some ⟨tkn e out, contrV l b out (tkn e out) (e.map pos1) (prodW (e.map pos1)).toNat⟩ := if_pos h
theorem gContracted_some {l : List Tsr} {b : List (List Int)} {out e : List Int} {r : Tsr} (h : gContracted l b out e = some r) : contrB l b out e ∧ r = ⟨tkn e out, contrV l b out (tkn e out) (e.map pos1) (prodW (e.map pos1)).toNat⟩ := by
  unfold gContracted at h
  split at h
  · exact ⟨‹_›, (Option.some.inj h).symm⟩
  · simp at h
theorem labOK_idx {l : List Int} (h : labOK l = true) {n : Nat} (hn : n = 5) : ∀ i, i < l.length → 0 ≤ l.getD i 0 ∧ l.getD i 0 < n := fun i hi => by
  have := labOK_at h hi; omega
end Go.Proofs.Ytgepbcakcjdmoaa
