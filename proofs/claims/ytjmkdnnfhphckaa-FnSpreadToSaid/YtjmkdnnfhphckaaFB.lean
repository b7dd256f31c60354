/- Contracts of functions on lists, shapes and numbers that the laws of this seat call. -/
import Derived.Test.YtjmkdnnfhphckaaFA
import Derived.Test.YtjmkdnnfhphckaaEvC
set_option linter.all false
namespace Go.Proofs.Ytjmkdnnfhphckaa
open Go Go.Ev Go.RowKit Go.Ev.Enc Go.Pl

/-- a walk over all pairs i less than j -/
def inn {σ : Type} (f : σ → Nat → Nat → σ) (n i : Nat) : Nat → σ → σ
  | 0, s => s
  | k + 1, s => inn f n i k (f s i (n - (k + 1)))
def outW {σ : Type} (f : σ → Nat → Nat → σ) (n : Nat) : Nat → σ → σ
  | 0, s => s
  | k + 1, s => outW f n k (inn f n (n - (k + 1)) k s)
theorem inn_step {σ : Type} {f : σ → Nat → Nat → σ} {n i j : Nat} {s : σ} (h : j < n) : inn f n i (n - j) s = inn f n i (n - (j + 1)) (f s i j) := by
  rw [show n - j = (n - (j + 1)) + 1 by omega, inn]
  rw [show n - (n - (j + 1) + 1) = j by omega]
theorem outW_step {σ : Type} {f : σ → Nat → Nat → σ} {n i : Nat} {s : σ} (h : i < n) : outW f n (n - i) s = outW f n (n - (i + 1)) (inn f n i (n - (i + 1)) s) := by
  rw [show n - i = (n - (i + 1)) + 1 by omega, outW]
  rw [show n - (n - (i + 1) + 1) = i by omega]
def stp (c : Int → Int → Int) (p : Int × Int) (i j : Nat) : Int × Int := if c i j < c p.1 p.2 then ((i : Int), (j : Int)) else p
def stpS (c : Int → Int → Int) (p : Option (Int × Int)) (i j : Nat) : Option (Int × Int) :=
  match p with
  | none => some ((i : Int), (j : Int))
  | some q => some (stp c q i j)
theorem inn_some (c : Int → Int → Int) (n i : Nat) : ∀ k p, inn (stpS c) n i k (some p) = some (inn (stp c) n i k p)
  | 0, _ => rfl
  | k + 1, p => by rw [inn, inn]; exact inn_some c n i k _
theorem outW_some (c : Int → Int → Int) (n : Nat) : ∀ k p, outW (stpS c) n k (some p) = some (outW (stp c) n k p)
  | 0, _ => rfl
  | k + 1, p => by rw [outW, outW, inn_some]; exact outW_some c n k _
theorem best_two (c : Int → Int → Int) {n : Nat} (h : 2 ≤ n) : outW (stpS c) n n none = some (outW (stp c) n n (0, 1)) := by
  have h1 := outW_step (f := stpS c) (n := n) (i := 0) (s := none) (by omega)
  have h2 := outW_step (f := stp c) (n := n) (i := 0) (s := (0, 1)) (by omega)
  rw [Nat.sub_zero] at h1 h2
  rw [h1, h2, Nat.zero_add, inn_step (show 1 < n by omega), inn_step (show 1 < n by omega)]
  have e1 : stpS c none 0 1 = some (0, 1) := rfl
  have e2 : stp c (0, 1) 0 1 = (0, 1) := if_neg (Int.lt_irrefl _)
  rw [e1, e2, inn_some, outW_some]
theorem best_few (c : Int → Int → Int) {n : Nat} (h : n < 2) : outW (stpS c) n n none = none := by
  match n, h with
  | 0, _ => rfl
  | 1, _ => rfl
def pairR (p : Option (Int × Int)) : Int × Int :=
  match p with
  | none => (-1, -1)
  | some q => q
def bestF (l : List Tsr) (b : List (List Int)) (out : List Int) : Int × Int :=
  match extF l b with
  | none => (-1, -1)
  | some e => if labOK out = true then pairR (outW (stpS (costS e b out)) l.length l.length none) else (-1, -1)
def gBest (l : List Tsr) (b : List (List Int)) (out : List Int) : Option (Int × Int) := gd (szOK l b ∧ out.length ≤ 1048576) (bestF l b out)
theorem gBest_eq {l : List Tsr} {b : List (List Int)} {out : List Int} (h : szOK l b ∧ out.length ≤ 1048576) : gBest l b out = some (bestF l b out) := gd_eq h
/-- what the reference's variables hold -/
def bestRel (c : Int → Int → Int) (s : Option (Int × Int)) (x y v : Int) : Prop := (s = none ∧ x = -1 ∧ y = -1) ∨ (s = some (x, y) ∧ 0 ≤ x ∧ v = c x y)
def gTrue3 (l : List Tsr) (b : List (List Int)) (out : List Int) : Option Bool := gd ((l.length ≤ 9223372036854775807 ∧ b.length ≤ 9223372036854775807 ∧ out.length ≤ 9223372036854775807) ∧ tsrsBig l ∧ bigRows b) true
end Go.Proofs.Ytjmkdnnfhphckaa
namespace Go.Proofs.Ytjmkdnnfhphckaa
open Go Go.Ev Go.RowKit Go.Ev.Enc Go.Pl

theorem gTakenOf_eq {e l : List Int} (h : l.length < 4294967296 ∧ ∀ i, i < l.length → 0 ≤ l.getD i 0 ∧ l.getD i 0 < e.length) : gTakenOf e l = some (tkn e l) := gd_eq h
/-- the numbers of a rank: from the last one on -/
def unrR : List Int → Int → List Int
  | [], _ => []
  | d :: r, k => k.tmod d :: unrR r (k.tdiv d)
def unrF (s : List Int) (k : Int) : List Int := (unrR s.reverse k).reverse
theorem unrR_len : ∀ (s : List Int) (k : Int), (unrR s k).length = s.length
  | [], _ => rfl
  | d :: r, k => by simp [unrR, unrR_len r]
theorem unrF_len (s : List Int) (k : Int) : (unrF s k).length = s.length := by simp [unrF, unrR_len]
def divR : List Int → Int → Int
  | [], k => k
  | d :: r, k => divR r (k.tdiv d)
theorem unrR_app : ∀ (s t : List Int) (k : Int), unrR (s ++ t) k = unrR s k ++ unrR t (divR s k)
  | [], t, k => rfl
  | d :: r, t, k => by simp [unrR, divR, unrR_app r t]
theorem divR_app : ∀ (s t : List Int) (k : Int), divR (s ++ t) k = divR t (divR s k)
  | [], t, k => rfl
  | d :: r, t, k => by simp [divR, divR_app r t]
def gUnrank (s : List Int) (k : Int) : Option (List Int) := gd (s.length < 4294967296 ∧ (0 ≤ k ∧ k ≤ 9223372036854775807) ∧ ∀ i, i < s.length → 1 ≤ s.getD i 0) (unrF s k)
theorem gUnrank_eq {s : List Int} {k : Int} (h : s.length < 4294967296 ∧ (0 ≤ k ∧ k ≤ 9223372036854775807) ∧ ∀ i, i < s.length → 1 ≤ s.getD i 0) : gUnrank s k = some (unrF s k) := gd_eq h
theorem divR_nn : ∀ (s : List Int) (k : Int), (∀ d ∈ s, 1 ≤ d) → 0 ≤ k → 0 ≤ divR s k ∧ divR s k ≤ k
  | [], k, _, h => ⟨h, Int.le_refl _⟩
  | d :: r, k, hs, h => by
    have hd := hs d (by simp)
    have h1 : 0 ≤ k.tdiv d := Int.tdiv_nonneg h (by omega)
    have h2 : k.tdiv d ≤ k := by rw [Int.tdiv_eq_ediv_of_nonneg h]; exact Int.ediv_le_self _ h
    have := divR_nn r (k.tdiv d) (fun x hx => hs x (by simp [hx])) h1
    exact ⟨this.1, by unfold divR; omega⟩
/-- a list that is filled from its end on: m numbers are still to come -/
def fromEnd (l : List Int) (m : Nat) : List Int := List.replicate m 0 ++ l.drop m
theorem fromEnd_len {l : List Int} {m : Nat} (h : m ≤ l.length) : (fromEnd l m).length = l.length := by simp [fromEnd]; omega
theorem fromEnd_set {l : List Int} {m : Nat} (h : m < l.length) : (fromEnd l (m + 1)).set m (l.getD m 0) = fromEnd l m := by
  unfold fromEnd
  rw [List.replicate_succ', List.append_assoc, List.set_append_right _ _ (by simp), drop_getD (d := 0) h]
  simp
theorem rev_drop {s : List Int} {m : Nat} (h : m < s.length) : s.reverse.take (s.length - m) = s.reverse.take (s.length - (m + 1)) ++ [s.getD m 0] := by
  rw [show s.length - m = (s.length - (m + 1)) + 1 by omega, List.take_succ_eq_append_getElem (by simp; omega)]
  congr 1
  simp [h]
  congr 1
  omega
theorem unrF_at {s : List Int} {k : Int} {m : Nat} (h : m < s.length) : (unrF s k).getD m 0 = (divR (s.reverse.take (s.length - (m + 1))) k).tmod (s.getD m 0) := by
  unfold unrF
  have hl := unrR_len s.reverse k
  rw [List.length_reverse] at hl
  have e : (unrR s.reverse k).reverse.getD m 0 = (unrR s.reverse k).getD (s.length - (m + 1)) 0 := by
    simp only [List.getD_eq_getElem?_getD]
    rw [List.getElem?_reverse (by omega), hl]
    congr 2; omega
  rw [e]
  have hs : s.reverse = s.reverse.take (s.length - (m + 1)) ++ s.getD m 0 :: s.reverse.drop (s.length - m) := by
    have h1 := rev_drop h
    have h2 := List.take_append_drop (s.length - m) s.reverse
    rw [h1, List.append_assoc] at h2
    exact h2.symm
  conv => lhs; rw [hs]
  rw [unrR_app]
  have hl2 : (unrR (s.reverse.take (s.length - (m + 1))) k).length = s.length - (m + 1) := by rw [unrR_len]; simp
  rw [List.getD_eq_getElem?_getD, List.getElem?_append_right (by omega), hl2, Nat.sub_self]
  rfl
set_option maxHeartbeats 2000000 in
set_option maxRecDepth 100000 in
theorem spec_unrank {Sg : FuncId → Option (List AV → Option AV)} (hS : Sound Try.prog Sg) : ∀ a r, F2 gUnrank a = some r → CSpec Try.prog 57 a r := by
  refine spec2 Try.func57 rfl Try.pf hS ?_
  intro s k r hr
  obtain ⟨⟨h1, ⟨h2, h2'⟩, h3⟩, rfl⟩ := gd_some hr
  have hall : ∀ m, ∀ d ∈ s.reverse.take m, 1 ≤ d := fun m d hd => by
    have := List.mem_of_mem_take hd
    rw [List.mem_reverse] at this
    obtain ⟨i, hi, rfl⟩ := List.mem_iff_getElem.1 this
    have := h3 i hi
    simpa [hi] using this
  have hul := unrF_len s k
  repeat' (first | with_reducible first | refine kI (by kernel_rfl) ?_ | (first | refine kB1 ?_ ?_ | refine kB2 ?_ ?_) <;> intro hp | (first | refine kD1 ?_ ?_ | refine kD2 ?_ ?_ | refine kS1 ?_ ?_ | refine kS2 ?_ ?_) <;> intro hp <;> try simp only [hp] | simp -implicitDefEqProofs (disch := omega) only [go_sem, Nat.reduceAdd, Nat.reduceSub, reduceCtorEq, Nat.reduceLT, Nat.reduceLeDiff, Nat.reduceEqDiff, Nat.reduceMul, Int.reduceToNat, ↓reduceIte, List.take_of_length_le, if_pos, if_neg, getD_tsrs, fillA_len, fillA_at, fillA_full, evApp_z0, evApp_z1, evApp_z2, evApp_z3, cnE, Try.ntmps57, Try.results57])
  refine LoopQ.mix (fun t0 L0 nn ss => ∃ (m : Nat) (c : Int) (_ : Unit), (∃ x : Nat → AV, ss = ⟨mixL 0 (.k :: .v (i64 c) :: .k :: .k :: .k :: .k :: .v (i64 ((m : Nat) - 1)) :: .k :: .k :: .k :: .k :: .k :: .k :: .s :: .s :: .s :: .s :: .s :: .s :: .s :: .s :: .s :: .s :: .s :: .s :: .s :: .s :: .s :: .s :: .s :: .s :: .s :: .k :: []) t0 x, [⟨1, (fromEnd (unrF s k) m).map fun n => .int .i64 n⟩]⟩) ∧ (m ≤ s.length) ∧ (c = divR (s.reverse.take (s.length - m)) k) ∧ nn = m + 1) ?_ ?_
  · exact ⟨_, ⟨s.length, k, (), mixJ rfl (by rw [fromEnd, List.drop_of_length_le (by omega), List.append_nil]), Nat.le_refl _, by rw [Nat.sub_self]; rfl, rfl⟩⟩
  · rintro I0 hI0 n ss ⟨m, c, _, ⟨x, rfl⟩, g1, g2, rfl⟩
    have hc := divR_nn (s.reverse.take (s.length - m)) k (hall _) h2
    rw [← g2] at hc
    match m, g1 with
    | 0, _ =>
      have h0 : fromEnd (unrF s k) 0 = unrF s k := by simp [fromEnd]
      rw [h0]
      repeat' (first | with_reducible first | refine kI (by kernel_rfl) ?_ | (first | refine kB1 ?_ ?_ | refine kB2 ?_ ?_) <;> intro hp | (first | refine kD1 ?_ ?_ | refine kD2 ?_ ?_ | refine kS1 ?_ ?_ | refine kS2 ?_ ?_) <;> intro hp <;> try simp only [hp] | simp -implicitDefEqProofs (disch := omega) only [go_sem, Nat.reduceAdd, Nat.reduceSub, reduceCtorEq, Nat.reduceLT, Nat.reduceLeDiff, Nat.reduceEqDiff, Nat.reduceMul, Int.reduceToNat, ↓reduceIte, List.take_of_length_le, if_pos, if_neg, getD_tsrs, fillA_len, fillA_at, fillA_full, evApp_z0, evApp_z1, evApp_z2, evApp_z3, cnE, Try.ntmps57, Try.results57])
    | m + 1, hm =>
      have h4 := h3 m hm
      have ht := fromEnd_len (l := unrF s k) (m := m + 1) (by omega)
      have hs := fromEnd_set (l := unrF s k) (m := m) (by omega)
      have hv := unrF_at (k := k) hm
      rw [← g2] at hv
      rw [hv] at hs
      have hd : divR (s.reverse.take (s.length - m)) k = c.tdiv (s.getD m 0) := by rw [rev_drop hm, divR_app, ← g2]; rfl
      have h5 : 0 ≤ c.tdiv (s.getD m 0) := Int.tdiv_nonneg hc.1 (by omega)
      have h6 : c.tdiv (s.getD m 0) ≤ c := by rw [Int.tdiv_eq_ediv_of_nonneg hc.1]; exact Int.ediv_le_self _ hc.1
      have e1 : (((m + 1 : Nat) : Int) - 1) = (m : Int) := by omega
      rw [e1]
      have h7 : ¬ s.getD m 0 = 0 := by omega
      repeat' (first | with_reducible first | refine kI (by kernel_rfl) ?_ | (first | refine kB1 ?_ ?_ | refine kB2 ?_ ?_) <;> intro hp | (first | refine kD1 ?_ ?_ | refine kD2 ?_ ?_ | refine kS1 ?_ ?_ | refine kS2 ?_ ?_) <;> intro hp <;> try simp only [hp] | simp -implicitDefEqProofs (disch := omega) only [go_sem, Nat.reduceAdd, Nat.reduceSub, reduceCtorEq, Nat.reduceLT, Nat.reduceLeDiff, Nat.reduceEqDiff, Nat.reduceMul, Int.reduceToNat, ↓reduceIte, List.take_of_length_le, if_pos, if_neg, getD_tsrs, fillA_len, fillA_at, fillA_full, evApp_z0, evApp_z1, evApp_z2, evApp_z3, cnE, Try.ntmps57, Try.results57,  hs, ht, set_ints])
      exact ⟨m + 1, by omega, hI0 _ _ ⟨m, _, (), mixI rfl, by omega, hd.symm, rfl⟩⟩

/-! ### the contraction -/
def termS (l : List Tsr) (b : List (List Int)) (al : List Int) : Nat → Int
  | 0 => 1
  | k + 1 => IntKind.i64.wrap (termS l b al k * (l.getD k ⟨[], []⟩).vl.getD (rankW (l.getD k ⟨[], []⟩).sh (tkn al (b.getD k [])) (l.getD k ⟨[], []⟩).sh.length).toNat 0)
def addAt (v : List Int) (r x : Int) : List Int := v.set r.toNat (IntKind.i64.wrap (v.getD r.toNat 0 + x))
def stepS (l : List Tsr) (b : List (List Int)) (out sh al v : List Int) : List Int := addAt v (rankW sh (tkn al out) sh.length) (termS l b al l.length)
theorem stepS_len (l : List Tsr) (b : List (List Int)) (out sh al v : List Int) : (stepS l b out sh al v).length = v.length := by simp [stepS, addAt]
def contrV (l : List Tsr) (b : List (List Int)) (out sh s5 : List Int) : Nat → List Int
  | 0 => List.replicate (prodW sh).toNat 0
  | k + 1 => stepS l b out sh (unrF s5 k) (contrV l b out sh s5 k)
theorem contrV_len (l : List Tsr) (b : List (List Int)) (out sh s5 : List Int) : ∀ k, (contrV l b out sh s5 k).length = (prodW sh).toNat
  | 0 => by simp [contrV]
  | k + 1 => by rw [contrV, stepS_len, contrV_len l b out sh s5 k]
/-- what the code asks of the numbers at which it looks -/
def okAt (l : List Tsr) (b : List (List Int)) (out sh al : List Int) : Prop :=
  (∀ k, k < l.length → (l.getD k ⟨[], []⟩).sh.length ≤ (b.getD k []).length ∧ 0 ≤ rankW (l.getD k ⟨[], []⟩).sh (tkn al (b.getD k [])) (l.getD k ⟨[], []⟩).sh.length ∧ rankW (l.getD k ⟨[], []⟩).sh (tkn al (b.getD k [])) (l.getD k ⟨[], []⟩).sh.length < (l.getD k ⟨[], []⟩).vl.length) ∧
  0 ≤ rankW sh (tkn al out) sh.length ∧ rankW sh (tkn al out) sh.length < (prodW sh).toNat
def contrB (l : List Tsr) (b : List (List Int)) (out e : List Int) : Prop :=
  (szOK l b ∧ b.length = l.length ∧ out.length < 4294967296 ∧ e.length = 5) ∧ labsIn b ∧ labOK out = true ∧ (0 ≤ prodW (tkn e out) ∧ prodW (tkn e out) ≤ 1048576) ∧ (0 ≤ prodW (e.map pos1) ∧ prodW (e.map pos1) ≤ 1048576) ∧
  (0 < prodW (e.map pos1) → (∀ i, i < 5 → 1 ≤ (e.map pos1).getD i 0) ∧ ∀ k : Nat, (k : Int) < prodW (e.map pos1) → okAt l b out (tkn e out) (unrF (e.map pos1) k))
open Classical in
noncomputable def gContracted (l : List Tsr) (b : List (List Int)) (out e : List Int) : Option Tsr := if contrB l b out e then some ⟨tkn e out, contrV l b out (tkn e out) (e.map pos1) (prodW (e.map pos1)).toNat⟩ else none
theorem gContracted_eq {l : List Tsr} {b : List (List Int)} {out e : List Int} (h : contrB l b out e) : gContracted l b out e = some ⟨tkn e out, contrV l b out (tkn e out) (e.map pos1) (prodW (e.map pos1)).toNat⟩ := if_pos h
theorem gContracted_some {l : List Tsr} {b : List (List Int)} {out e : List Int} {r : Tsr} (h : gContracted l b out e = some r) : contrB l b out e ∧ r = ⟨tkn e out, contrV l b out (tkn e out) (e.map pos1) (prodW (e.map pos1)).toNat⟩ := by
  unfold gContracted at h
  split at h
  · exact ⟨‹_›, (Option.some.inj h).symm⟩
  · simp at h
theorem labOK_idx {l : List Int} (h : labOK l = true) {n : Nat} (hn : n = 5) : ∀ i, i < l.length → 0 ≤ l.getD i 0 ∧ l.getD i 0 < n := fun i hi => by
  have := labOK_at h hi; omega
end Go.Proofs.Ytjmkdnnfhphckaa
namespace Go.Proofs.Ytjmkdnnfhphckaa
open Go Go.Ev Go.RowKit Go.Ev.Enc Go.Pl

def diffF (l : List Int) : Bool := decide (∀ k, k < l.length → ¬ l.getD k 0 ∈ l.take k)
theorem gDifferent_eq {l : List Int} (h : l.length < 4294967296) : gDifferent l = some (diffF l) := gd_eq h
/-- labels of a result -/
def goodF (out e : List Int) : Bool := labOK out && diffF out && (tkn e out).all (fun n => inR n 0 60) && shapeOK (tkn e out)
def gGoodOut (out e : List Int) : Option Bool := gd (out.length < 4294967296 ∧ e.length = 5) (goodF out e)
theorem gGoodOut_eq {out e : List Int} (h : out.length < 4294967296 ∧ e.length = 5) : gGoodOut out e = some (goodF out e) := gd_eq h
/-- the result of a contraction; none where it is not possible -/
def contrF (l : List Tsr) (b : List (List Int)) (out e : List Int) : Option Tsr :=
  if goodF out e = true ∧ prodW (e.map pos1) ≤ 4000 then some ⟨tkn e out, contrV l b out (tkn e out) (e.map pos1) (prodW (e.map pos1)).toNat⟩ else none
end Go.Proofs.Ytjmkdnnfhphckaa
namespace Go.Proofs.Ytjmkdnnfhphckaa
open Go Go.Ev Go.RowKit Go.Ev.Enc Go.Pl

theorem gmem {l : List Int} {d : Nat} (h : d < l.length) : l.getD d 0 ∈ l := by simp [h]
/-- exact products -/
def prE : List Int → Int
  | [] => 1
  | x :: r => x * prE r
def inE (l : List Int) : Prop := ∀ x ∈ l, 0 ≤ x ∧ x ≤ 60
theorem prE_nn : ∀ {l : List Int}, inE l → 0 ≤ prE l
  | [], _ => by decide
  | x :: r, h => Int.mul_nonneg (h x (by simp)).1 (prE_nn fun y hy => h y (by simp [hy]))
theorem prE_le : ∀ {l : List Int}, inE l → prE l ≤ 60 ^ l.length
  | [], _ => by decide
  | x :: r, h => by
    have h1 := prE_le (l := r) fun y hy => h y (by simp [hy])
    have h2 := prE_nn (l := r) fun y hy => h y (by simp [hy])
    have h3 := h x (by simp)
    rw [prE, List.length_cons, Int.pow_succ, Int.mul_comm (60 ^ r.length)]
    exact Int.mul_le_mul h3.2 h1 h2 (by decide)
theorem pow60_le {n : Nat} (h : n ≤ 5) : (60 : Int) ^ n ≤ 777600000 := by
  match n, h with
  | 0, _ => decide
  | 1, _ => decide
  | 2, _ => decide
  | 3, _ => decide
  | 4, _ => decide
  | 5, _ => decide
theorem foldW (r : List Int) : ∀ a : Int, inE r → 0 ≤ a → (∀ k, k ≤ r.length → a * prE (r.take k) ≤ 9223372036854775807) → r.foldl (fun n e => IntKind.i64.wrap (n * e)) a = a * prE r := by
  induction r with
  | nil => intro a _ _ _; simp [prE]
  | cons x r ih =>
    intro a h ha hk
    have hx := h x (by simp)
    have h1 := hk 1 (by simp)
    have e1 : prE ((x :: r).take 1) = x := by simp [prE]
    rw [e1] at h1
    rw [List.foldl_cons, wrap_in ⟨by have := Int.mul_nonneg ha hx.1; omega, h1⟩, ih _ (fun y hy => h y (by simp [hy])) (Int.mul_nonneg ha hx.1), prE, Int.mul_assoc]
    intro k hkr
    have h2 := hk (k + 1) (by simpa using hkr)
    rw [List.take_succ_cons, prE] at h2
    rw [Int.mul_assoc]; exact h2
theorem prodW_eq {l : List Int} (h : inE l) (hl : l.length ≤ 5) : prodW l = prE l := by
  unfold prodW
  rw [foldW l 1 h (by decide) (fun k hk => ?_), Int.one_mul]
  have h1 := prE_le (l := l.take k) fun y hy => h y (List.mem_of_mem_take hy)
  have h2 := pow60_le (n := (l.take k).length) (by rw [List.length_take]; omega)
  omega
theorem prE_pos : ∀ {l : List Int}, inE l → 0 < prE l → ∀ x ∈ l, 1 ≤ x
  | [], _, _, x, hx => by simp at hx
  | y :: r, h, hp, x, hx => by
    have hy := h y (by simp)
    have hr := prE_nn (l := r) fun z hz => h z (by simp [hz])
    rw [prE] at hp
    have hy0 : y ≠ 0 := fun e => by rw [e, Int.zero_mul] at hp; omega
    have hr0 : prE r ≠ 0 := fun e => by rw [e, Int.mul_zero] at hp; omega
    rcases List.mem_cons.1 hx with rfl | hx
    · omega
    · exact prE_pos (fun z hz => h z (by simp [hz])) (by omega) x hx
theorem prE_snoc : ∀ (l : List Int) (x : Int), prE (l ++ [x]) = prE l * x
  | [], x => by simp [prE]
  | y :: r, x => by rw [List.cons_append, prE, prE, prE_snoc r x, Int.mul_assoc]

/-- ranks stay below the product -/
theorem rank_lt {s i : List Int} (hs : inE s) (hl : s.length ≤ 4) (hi : ∀ k, k < s.length → 0 ≤ i.getD k 0 ∧ i.getD k 0 < s.getD k 0) :
    ∀ k, k ≤ s.length → 0 ≤ rankW s i k ∧ rankW s i k < prE (s.take k)
  | 0, _ => by simp [rankW, prE]
  | k + 1, hk => by
    obtain ⟨h1, h2⟩ := rank_lt hs hl hi k (by omega)
    obtain ⟨h3, h4⟩ := hi k (by omega)
    have hx := hs (s.getD k 0) (by simp [show k < s.length by omega])
    have hb : prE (s.take k) ≤ 777600000 := by
      have a1 := prE_le (l := s.take k) fun y hy => hs y (List.mem_of_mem_take hy)
      have a2 := pow60_le (n := (s.take k).length) (by rw [List.length_take]; omega)
      omega
    have e1 : rankW s i k * s.getD k 0 ≤ (prE (s.take k) - 1) * s.getD k 0 := Int.mul_le_mul_of_nonneg_right (by omega) hx.1
    have e2 : 0 ≤ rankW s i k * s.getD k 0 := Int.mul_nonneg h1 hx.1
    have e3 : (prE (s.take k) - 1) * s.getD k 0 = prE (s.take k) * s.getD k 0 - s.getD k 0 := by rw [Int.sub_mul, Int.one_mul]
    have e4 : prE (s.take k) * s.getD k 0 ≤ 777600000 * 60 := Int.mul_le_mul hb hx.2 hx.1 (by decide)
    have e5 : prE (s.take (k + 1)) = prE (s.take k) * s.getD k 0 := by rw [take_succ_getD (by omega), prE_snoc]
    rw [e5, rankW, wrap_in (n := rankW s i k * s.getD k 0) ⟨by omega, by omega⟩, wrap_in ⟨by omega, by omega⟩]
    omega

/-- the extents are the dimensions' -/
theorem extIn_keep : ∀ (z : List (Int × Int)) (o o' : List Int), o.length = 5 → (∀ p ∈ z, (0 ≤ p.1 ∧ p.1 ≤ 4) ∧ 0 ≤ p.2) → extIn o z = some o' →
    (∀ (k : Nat) (v : Int), 0 ≤ v → o.getD k 0 = v → o'.getD k 0 = v) ∧ (∀ p ∈ z, o'.getD p.1.toNat 0 = p.2)
  | [], o, o', _, _, h => by simp [extIn] at h; subst h; simp
  | x :: r, o, o', ho, hz, h => by
    unfold extIn at h
    split at h
    · simp at h
    · rename_i hc
      obtain ⟨⟨x1, x2⟩, x3⟩ := hz x (by simp)
      obtain ⟨g1, g2⟩ := extIn_keep r _ o' (by simp [ho]) (fun p hp => hz p (by simp [hp])) h
      have hs : (o.set x.1.toNat x.2).getD x.1.toNat 0 = x.2 := by rw [getD_set, if_pos ⟨rfl, by omega⟩]
      refine ⟨fun k v hv hk => g1 k v hv ?_, fun p hp => ?_⟩
      · rw [getD_set]
        split
        · rename_i hkx
          obtain ⟨rfl, _⟩ := hkx
          have : ¬ o.getD x.1.toNat 0 ≠ x.2 := fun hne => hc ⟨by omega, hne⟩
          omega
        · exact hk
      · rcases List.mem_cons.1 hp with rfl | hp
        · exact g1 _ _ x3 hs
        · exact g2 p hp
theorem extIn_ub : ∀ (z : List (Int × Int)) (o o' : List Int), (∀ p ∈ z, p.2 ≤ 60) → (∀ k, o.getD k 0 ≤ 60) → extIn o z = some o' → ∀ k, o'.getD k 0 ≤ 60
  | [], o, o', _, ho, h => by simp [extIn] at h; subst h; exact ho
  | x :: r, o, o', hz, ho, h => by
    unfold extIn at h
    split at h
    · simp at h
    · refine extIn_ub r _ o' (fun p hp => hz p (by simp [hp])) (fun k => ?_) h
      rw [getD_set]
      split
      · exact hz x (by simp)
      · exact ho k
theorem extAll_keep : ∀ (z : List (Tsr × List Int)) (o o' : List Int), o.length = 5 → (∀ k, o.getD k 0 ≤ 60) → extAll tsrOK o z = some o' →
    (∀ (k : Nat) (v : Int), 0 ≤ v → o.getD k 0 = v → o'.getD k 0 = v) ∧ (∀ k, o'.getD k 0 ≤ 60) ∧ ∀ x ∈ z, (tsrOK x.1 = true ∧ x.2.length = x.1.sh.length) ∧ ∀ d, d < x.2.length → o'.getD (x.2.getD d 0).toNat 0 = x.1.sh.getD d 0
  | [], o, o', _, hu, h => by
    simp [extAll] at h; subst h
    exact ⟨fun _ _ _ h => h, hu, fun x hx => by simp at hx⟩
  | x :: r, o, o', ho, hu, h => by
    unfold extAll at h
    split at h
    · rename_i hc
      simp only [Option.bind_eq_some_iff] at h
      obtain ⟨o1, h1, h2⟩ := h
      have hd := tsrOK_dims hc.1
      have hz : ∀ p ∈ x.2.zip x.1.sh, (0 ≤ p.1 ∧ p.1 ≤ 4) ∧ 0 ≤ p.2 := fun p hp => by
        have hm := List.of_mem_zip hp
        have := labOK_mem hc.2.2 hm.1
        exact ⟨⟨this.1, by omega⟩, (hd.2 _ hm.2).1⟩
      obtain ⟨a1, a2⟩ := extIn_keep _ o o1 ho hz h1
      have au := extIn_ub _ o o1 (fun p hp => (hd.2 _ (List.of_mem_zip hp).2).2) hu h1
      obtain ⟨b1, b2, b3⟩ := extAll_keep r o1 o' (by rw [extIn_len _ _ _ h1, ho]) au h2
      refine ⟨fun k v hv hk => b1 k v hv (a1 k v hv hk), b2, fun y hy => ?_⟩
      rcases List.mem_cons.1 hy with rfl | hy
      · refine ⟨⟨hc.1, hc.2.1⟩, fun d hd' => ?_⟩
        have hds : d < y.1.sh.length := by omega
        have hm : (y.2.getD d 0, y.1.sh.getD d 0) ∈ y.2.zip y.1.sh := by
          rw [List.mem_iff_getElem]
          exact ⟨d, by rw [List.length_zip]; omega, by simp [hd', hds]⟩
        exact b1 _ _ (hz _ hm).2 (a2 _ hm)
      · exact b3 y hy
    · simp at h
/-- all that a contraction asks of extents -/
structure ExtOK (l : List Tsr) (b : List (List Int)) (e : List Int) : Prop where
  len : e.length = 5
  bl : b.length = l.length
  l1 : 1 ≤ l.length
  l3 : l.length ≤ 3
  lab : labsIn b
  row : ∀ k, k < b.length → (b.getD k []).length = (l.getD k ⟨[], []⟩).sh.length
  tsr : ∀ k, k < l.length → tsrOK (l.getD k ⟨[], []⟩) = true
  ext : ∀ k, k < b.length → ∀ d, d < (b.getD k []).length → e.getD ((b.getD k []).getD d 0).toNat 0 = (l.getD k ⟨[], []⟩).sh.getD d 0
  ub : ∀ k, e.getD k 0 ≤ 60
theorem extOK_of {l : List Tsr} {b : List (List Int)} {e : List Int} (h : extF l b = some e) : ExtOK l b e := by
  obtain ⟨h1, h2, h3, h4, h5⟩ := extF_len h
  obtain ⟨f1, f2, f3⟩ := extF_facts h
  unfold extF at h
  rw [if_pos ⟨h4, h5, h2⟩] at h
  obtain ⟨_, g2, g3⟩ := extAll_keep _ _ _ rfl (by intro k; match k with | 0 => decide | 1 => decide | 2 => decide | 3 => decide | 4 => decide | k + 5 => simp) h
  have hm : ∀ k, k < b.length → (l.getD k ⟨[], []⟩, b.getD k []) ∈ l.zip b := fun k hk => by
    rw [List.mem_iff_getElem]
    exact ⟨k, by rw [List.length_zip]; omega, by simp [hk, show k < l.length by omega]⟩
  exact ⟨h1, h2, h4, h5, f1, fun k hk => (g3 _ (hm k hk)).1.2, fun k hk => (g3 _ (hm k (by omega))).1.1, fun k hk => (g3 _ (hm k hk)).2, g2⟩

theorem pos1_in {e : List Int} (hu : ∀ k, e.getD k 0 ≤ 60) : inE (e.map pos1) := fun x hx => by
  obtain ⟨y, hy, rfl⟩ := List.mem_map.1 hx
  obtain ⟨i, hi, rfl⟩ := List.mem_iff_getElem.1 hy
  have := hu i
  simp only [List.getD_eq_getElem?_getD, List.getElem?_eq_getElem hi, Option.getD_some] at this
  unfold pos1
  split <;> omega
theorem unrF_bd {s : List Int} (hs : ∀ i, i < s.length → 1 ≤ s.getD i 0) {k : Int} (hk : 0 ≤ k) {m : Nat} (hm : m < s.length) : 0 ≤ (unrF s k).getD m 0 ∧ (unrF s k).getD m 0 < s.getD m 0 := by
  rw [unrF_at hm]
  have h1 : ∀ d ∈ s.reverse.take (s.length - (m + 1)), 1 ≤ d := fun d hd => by
    have := List.mem_of_mem_take hd
    rw [List.mem_reverse] at this
    obtain ⟨i, hi, rfl⟩ := List.mem_iff_getElem.1 this
    have := hs i hi
    simpa [hi] using this
  have h2 := (divR_nn _ k h1 hk).1
  have h3 := hs m hm
  exact ⟨Int.tmod_nonneg _ h2, by have := Int.tmod_lt_of_pos (divR (s.reverse.take (s.length - (m + 1))) k) (show 0 < s.getD m 0 by omega); exact this⟩
theorem tkn_at {al r : List Int} {d : Nat} (h : d < r.length) : (tkn al r).getD d 0 = al.getD (r.getD d 0).toNat 0 := by simp [tkn, h]
/-- numbers of labels within their extents -/
def inLab (e al : List Int) : Prop := ∀ i, i < 5 → 0 ≤ e.getD i 0 → 0 ≤ al.getD i 0 ∧ al.getD i 0 < e.getD i 0
theorem goodF_facts {out e : List Int} (h : goodF out e = true) : labOK out = true ∧ (∀ k, k < out.length → ¬ out.getD k 0 ∈ out.take k) ∧ inE (tkn e out) ∧ (tkn e out).length ≤ 4 ∧ prodW (tkn e out) ≤ 60 := by
  unfold goodF diffF shapeOK at h
  simp only [Bool.and_eq_true, decide_eq_true_eq, List.all_eq_true] at h
  refine ⟨h.1.1.1, h.1.1.2, fun x hx => inR_t (h.1.2 x hx), h.2.1.1, h.2.2⟩
theorem tsr_facts {x : Tsr} (h : tsrOK x = true) : inE x.sh ∧ x.sh.length ≤ 4 ∧ (x.vl.length : Int) = prE x.sh := by
  have h1 := tsrOK_dims h
  unfold tsrOK at h
  simp only [Bool.and_eq_true, decide_eq_true_eq] at h
  have : inE x.sh := h1.2
  exact ⟨this, h1.1, by rw [h.1.2, prodW_eq this (by omega)]⟩
theorem row_rank {l : List Tsr} {b : List (List Int)} {e al : List Int} (hx : ExtOK l b e) (ha : inLab e al) {k : Nat} (hk : k < l.length) :
    (∀ d, d < (l.getD k ⟨[], []⟩).sh.length → 0 ≤ (tkn al (b.getD k [])).getD d 0 ∧ (tkn al (b.getD k [])).getD d 0 < (l.getD k ⟨[], []⟩).sh.getD d 0) := fun d hd => by
  have hkb : k < b.length := by rw [hx.bl]; exact hk
  have hr := hx.row k hkb
  have hdr : d < (b.getD k []).length := by omega
  rw [tkn_at hdr]
  have hl := labOK_at (hx.lab k hkb) hdr
  have he := hx.ext k hkb d hdr
  have ht := (tsr_facts (hx.tsr k hk)).1 ((l.getD k ⟨[], []⟩).sh.getD d 0) (gmem hd)
  have := ha ((b.getD k []).getD d 0).toNat (by omega) (by omega)
  omega
theorem out_rank {out e al : List Int} (hg : goodF out e = true) (ha : inLab e al) : ∀ d, d < (tkn e out).length → 0 ≤ (tkn al out).getD d 0 ∧ (tkn al out).getD d 0 < (tkn e out).getD d 0 := fun d hd => by
  obtain ⟨g1, g2, g3, g4, g5⟩ := goodF_facts hg
  rw [tkn_len] at hd
  rw [tkn_at hd, tkn_at hd]
  have hl := labOK_at g1 hd
  have hm : e.getD (out.getD d 0).toNat 0 ∈ tkn e out := by
    unfold tkn
    rw [List.mem_map]
    exact ⟨out.getD d 0, by simp [hd], rfl⟩
  exact ha _ (by omega) (g3 _ hm).1
theorem okAt_of {l : List Tsr} {b : List (List Int)} {out e al : List Int} (hx : ExtOK l b e) (hg : goodF out e = true) (ha : inLab e al) : okAt l b out (tkn e out) al := by
  obtain ⟨g1, g2, g3, g4, g5⟩ := goodF_facts hg
  refine ⟨fun k hk => ?_, ?_⟩
  · have hkb : k < b.length := by rw [hx.bl]; exact hk
    have hr := hx.row k hkb
    obtain ⟨t1, t2, t3⟩ := tsr_facts (hx.tsr k hk)
    have := rank_lt t1 t2 (row_rank hx ha hk) _ (Nat.le_refl _)
    rw [List.take_length, ← t3] at this
    exact ⟨by omega, this⟩
  · have := rank_lt g3 g4 (out_rank hg ha) _ (Nat.le_refl _)
    rw [List.take_length, ← prodW_eq g3 (by omega)] at this
    exact ⟨this.1, by omega⟩
theorem unr_inLab {e : List Int} (hl : e.length = 5) (h1 : ∀ i, i < 5 → 1 ≤ (e.map pos1).getD i 0) {k : Int} (hk : 0 ≤ k) : inLab e (unrF (e.map pos1) k) := fun i hi he => by
  have hml : (e.map pos1).length = 5 := by simp [hl]
  have := unrF_bd (s := e.map pos1) (fun i hi => h1 i (by omega)) hk (m := i) (by omega)
  have e1 : (e.map pos1).getD i 0 = e.getD i 0 := by
    have : (e.map pos1).getD i 0 = pos1 (e.getD i 0) := by simp [show i < e.length by omega]
    rw [this, pos1, if_neg (by omega)]
  rw [e1] at this
  exact this
theorem contrB_of {l : List Tsr} {b : List (List Int)} {out e : List Int} (hx : ExtOK l b e) (hs : szOK l b) (ho : out.length < 4294967296) (hg : goodF out e = true) (hn : prodW (e.map pos1) ≤ 4000) : contrB l b out e := by
  obtain ⟨g1, g2, g3, g4, g5⟩ := goodF_facts hg
  have hp := pos1_in hx.ub
  have hml : (e.map pos1).length = 5 := by simp [hx.len]
  have e1 := prodW_eq g3 (by omega)
  have e2 := prodW_eq hp (by omega)
  have n1 := prE_nn g3
  have n2 := prE_nn hp
  refine ⟨⟨hs, hx.bl, ho, hx.len⟩, hx.lab, g1, ⟨by omega, by omega⟩, ⟨by omega, by omega⟩, fun h0 => ?_⟩
  have h1 : ∀ i, i < 5 → 1 ≤ (e.map pos1).getD i 0 := fun i hi => prE_pos hp (by omega) _ (by
    rw [List.getD_eq_getElem?_getD, List.getElem?_eq_getElem (by omega)]; exact List.getElem_mem _)
  exact ⟨h1, fun k _ => okAt_of hx hg (unr_inLab hx.len h1 (by omega))⟩
theorem contr_len {l : List Tsr} {b : List (List Int)} {out e : List Int} {t : Tsr} (h : contrF l b out e = some t) : t.sh.length ≤ 4 ∧ t.vl.length ≤ 60 := by
  unfold contrF at h
  split at h
  · rename_i hc
    obtain ⟨g1, g2, g3, g4, g5⟩ := goodF_facts hc.1
    have := Option.some.inj h
    subst this
    exact ⟨g4, by rw [contrV_len]; omega⟩
  · simp at h

def tsrR (t : Option Tsr) : Tsr × Bool :=
  match t with
  | none => (⟨[], []⟩, false)
  | some t => (t, tsrOK t)
def gContr2 (l : List Tsr) (b : List (List Int)) (out : List Int) : Option (Tsr × Bool) := gd ((szOK l b ∧ out.length < 4294967296) ∧ tsrsOK l b = true) (tsrR ((extF l b).bind (contrF l b out)))
theorem gContr2_eq {l : List Tsr} {b : List (List Int)} {out : List Int} (h : (szOK l b ∧ out.length < 4294967296) ∧ tsrsOK l b = true) : gContr2 l b out = some (tsrR ((extF l b).bind (contrF l b out))) := gd_eq h
def tsrT (t : Option Tsr) : Tsr × Bool :=
  match t with
  | none => (⟨[], []⟩, false)
  | some t => if tsrOK t = true then (t, true) else (⟨[], []⟩, false)
def gContr (l : List Tsr) (b : List (List Int)) (out : List Int) : Option (Tsr × Bool) := gd (szOK l b ∧ out.length ≤ 1048576) (tsrT ((extF l b).bind (contrF l b out)))
theorem gContr_eq {l : List Tsr} {b : List (List Int)} {out : List Int} (h : szOK l b ∧ out.length ≤ 1048576) : gContr l b out = some (tsrT ((extF l b).bind (contrF l b out))) := gd_eq h
theorem extF_bad {l : List Tsr} {b : List (List Int)} (h : tsrsOK l b = false) : extF l b = none := by rw [extF_eq, h]; rfl
end Go.Proofs.Ytjmkdnnfhphckaa
namespace Go.Proofs.Ytjmkdnnfhphckaa
open Go Go.Ev Go.RowKit Go.Ev.Enc Go.Pl

/-- sums over the numbers of labels, one label after another -/
def sumV (l : List Tsr) (b : List (List Int)) (out sh e : List Int) : List Int → List Int → List Int → List Int
  | [], nums, v => stepS l b out sh nums v
  | u :: us, nums, v => (List.range (e.getD u.toNat 0).toNat).foldl (fun v (x : Nat) => sumV l b out sh e us (nums.set u.toNat x) v) v
theorem sumV_len (l : List Tsr) (b : List (List Int)) (out sh e : List Int) : ∀ (us nums v : List Int), (sumV l b out sh e us nums v).length = v.length
  | [], nums, v => by rw [sumV, stepS_len]
  | u :: us, nums, v => by
    rw [sumV]
    have : ∀ (r : List Nat) (v : List Int), (r.foldl (fun v (x : Nat) => sumV l b out sh e us (nums.set u.toNat x) v) v).length = v.length := by
      intro r
      induction r with
      | nil => intro v; rfl
      | cons x r ih => intro v; rw [List.foldl_cons, ih, sumV_len]
    exact this _ v
/-- numbers that agree but for some labels -/
def agr (us p q : List Int) : Prop := ∀ k : Nat, k < 5 → ¬ (k : Int) ∈ us → q.getD k 0 = p.getD k 0
theorem sumV_agr (l : List Tsr) (b : List (List Int)) (out sh e : List Int) : ∀ (us p q v : List Int), p.length = 5 → q.length = 5 → (∀ u ∈ us, 0 ≤ u ∧ u < 5) → agr us p q → sumV l b out sh e us q v = sumV l b out sh e us p v
  | [], p, q, v, hp, hq, _, h => by
    have : q = p := ints_ext (by omega) fun i hi => h i (by omega) (by simp)
    rw [this]
  | u :: us, p, q, v, hp, hq, hu, h => by
    have hu0 := hu u (by simp)
    rw [sumV, sumV]
    congr 1
    funext v x
    refine sumV_agr l b out sh e us _ _ v (by simp [hp]) (by simp [hq]) (fun w hw => hu w (by simp [hw])) fun k hk hm => ?_
    rw [getD_set, getD_set]
    by_cases hku : u.toNat = k
    · rw [if_pos ⟨hku, by omega⟩, if_pos ⟨hku, by omega⟩]
    · rw [if_neg (fun h => hku h.1), if_neg (fun h => hku h.1)]
      refine h k hk ?_
      rw [List.mem_cons]
      rintro (e1 | e1)
      · exact hku (by omega)
      · exact hm e1
theorem agr_set {us p q : List Int} {u x : Int} (hp : p.length = 5) (hq : q.length = 5) (hu : 0 ≤ u ∧ u < 5) (h : agr (u :: us) p q) : agr us (p.set u.toNat x) (q.set u.toNat x) := fun k hk hm => by
  rw [getD_set, getD_set]
  by_cases hku : u.toNat = k
  · rw [if_pos ⟨hku, by omega⟩, if_pos ⟨hku, by omega⟩]
  · rw [if_neg (fun h => hku h.1), if_neg (fun h => hku h.1)]
    refine h k hk ?_
    rw [List.mem_cons]
    rintro (e1 | e1)
    · exact hku (by omega)
    · exact hm e1
theorem agr_trans {us p q r : List Int} {u : Int} (h : agr (u :: us) p q) {x : Int} (hq : q.length = 5) (hu : 0 ≤ u ∧ u < 5) (h' : agr us (q.set u.toNat x) r) : agr (u :: us) p r := fun k hk hm => by
  rw [List.mem_cons, not_or] at hm
  rw [h' k hk hm.2, getD_set, if_neg (fun h => hm.1 (by omega))]
  exact h k hk (by rw [List.mem_cons, not_or]; exact hm)
/-- numbers in range, but for the labels that are still to come -/
def inBut (e us nums : List Int) : Prop := ∀ k : Nat, k < 5 → 0 ≤ e.getD k 0 → ¬ (k : Int) ∈ us → 0 ≤ nums.getD k 0 ∧ nums.getD k 0 < e.getD k 0
theorem idx_ok {s i : List Int} (hl : i.length = s.length) (h : ∀ d, d < s.length → 0 ≤ i.getD d 0 ∧ i.getD d 0 < s.getD d 0) : idxOK s i = true := idxOK_true hl fun d hd => h d (by omega)
theorem rankOf_eq {s i : List Int} (hs : shapeOK s = true) (hi : idxOK s i = true) : rankOf s i = rankW s i s.length := by rw [rankOf, hs, hi]; rfl
theorem dec_nilI : (dec (.ds 0 []) : Option (List Int)) = some [] := (ok _ _).2 rfl
theorem shape_of {x : Tsr} (h : tsrOK x = true) : shapeOK x.sh = true := by unfold tsrOK at h; simp only [Bool.and_eq_true] at h; exact h.1.1

/-- what the closure reads and writes -/
structure SumCtx (l : List Tsr) (b : List (List Int)) (out e used : List Int) : Prop where
  ext : ExtOK l b e
  sz : szOK l b
  ol : out.length < 4294967296
  good : goodF out e = true
  ul : ∀ u ∈ used, 0 ≤ u ∧ u < 5
  ue : ∀ u ∈ used, 0 ≤ e.getD u.toNat 0
  ud : used.Pairwise (· < ·)
  un : used.length ≤ 5
end Go.Proofs.Ytjmkdnnfhphckaa
namespace Go.Proofs.Ytjmkdnnfhphckaa
open Go Go.Ev Go.RowKit Go.Ev.Enc Go.Pl

def gContr3 (l : List Tsr) (b : List (List Int)) (out : List Int) : Option (Tsr × Bool) := gd (szOK l b ∧ out.length ≤ 1048576) (tsrT ((extF l b).bind (contrF l b out)))
theorem gContr3_eq {l : List Tsr} {b : List (List Int)} {out : List Int} (h : szOK l b ∧ out.length ≤ 1048576) : gContr3 l b out = some (tsrT ((extF l b).bind (contrF l b out))) := gd_eq h
theorem contrF_bad {l : List Tsr} {b : List (List Int)} {out e : List Int} (h : goodF out e = false) : contrF l b out e = none := by simp [contrF, h]
theorem goodF_neg {out e : List Int} {k : Nat} (hk : k < out.length) (h : e.getD (out.getD k 0).toNat 0 < 0) : goodF out e = false := by
  cases hg : goodF out e with
  | false => rfl
  | true =>
    obtain ⟨g1, g2, g3, g4, g5⟩ := goodF_facts hg
    have := g3 ((tkn e out).getD k 0) (gmem (by rw [tkn_len]; exact hk))
    rw [tkn_at hk] at this
    omega
theorem goodF_dup {out e : List Int} {k : Nat} (hk : k < out.length) (h : out.getD k 0 ∈ out.take k) : goodF out e = false := by
  cases hg : goodF out e with
  | false => rfl
  | true => exact absurd h ((goodF_facts hg).2.1 k hk)
theorem goodF_ok {out e : List Int} (hL : labOK out = true) (h : ∀ j, j < out.length → 0 ≤ e.getD (out.getD j 0).toNat 0 ∧ ¬ out.getD j 0 ∈ out.take j) (hu : ∀ k, e.getD k 0 ≤ 60) : goodF out e = shapeOK (tkn e out) := by
  have h1 : diffF out = true := by
    unfold diffF
    rw [decide_eq_true_eq]
    exact fun k hk => (h k hk).2
  have h2 : (tkn e out).all (fun n => inR n 0 60) = true := by
    rw [List.all_eq_true]
    intro x hx
    obtain ⟨i, hi, rfl⟩ := List.mem_iff_getElem.1 hx
    have h3 := hi
    rw [tkn_len] at h3
    have h4 := (h i h3).1
    have h5 := hu (out.getD i 0).toNat
    have h6 := tkn_at (al := e) h3
    simp only [List.getD_eq_getElem?_getD, List.getElem?_eq_getElem hi, Option.getD_some] at h6
    simp only [List.getD_eq_getElem?_getD] at h4 h5
    rw [h6]
    unfold inR
    simp only [Bool.and_eq_true, decide_eq_true_eq]
    exact ⟨h4, h5⟩
  unfold goodF
  rw [hL, h1, h2]
  rfl
theorem srt_in {b : List (List Int)} (hl : labsIn b) : ∀ x ∈ b.flatten, 0 ≤ x ∧ x < 5 := fun x hx => by
  rw [List.mem_flatten] at hx
  obtain ⟨r, hr, hx⟩ := hx
  obtain ⟨i, hi, rfl⟩ := List.mem_iff_getElem.1 hr
  have := hl i hi
  simp only [List.getD_eq_getElem?_getD, List.getElem?_eq_getElem hi, Option.getD_some] at this
  exact labOK_mem this hx
theorem srt5 {b : List (List Int)} (hl : labsIn b) : (srt b.flatten).length ≤ 5 := by
  rw [asc_labs (srt_asc b.flatten) fun x hx => srt_in hl x ((srt_mem _ x).1 hx)]
  exact Nat.le_trans (List.length_filter_le _ _) (by decide)
/-- extents of labels that no row has stay unset -/
theorem extIn_un : ∀ (z : List (Int × Int)) (o o' : List Int), extIn o z = some o' → ∀ k : Nat, (∀ p ∈ z, p.1.toNat ≠ k) → o'.getD k 0 = o.getD k 0
  | [], o, o', h => by simp [extIn] at h; subst h; intros; rfl
  | x :: r, o, o', h => by
    unfold extIn at h
    split at h
    · simp at h
    · intro k hk
      rw [extIn_un r _ o' h k fun p hp => hk p (by simp [hp]), getD_set, if_neg fun hh => hk x (by simp) hh.1]
theorem extAll_un : ∀ (z : List (Tsr × List Int)) (o o' : List Int), extAll tsrOK o z = some o' → ∀ k : Nat, (∀ p ∈ z, ∀ x ∈ p.2, x.toNat ≠ k) → o'.getD k 0 = o.getD k 0
  | [], o, o', h => by simp [extAll] at h; subst h; intros; rfl
  | x :: r, o, o', h => by
    unfold extAll at h
    split at h
    · simp only [Option.bind_eq_some_iff] at h
      obtain ⟨o1, h1, h2⟩ := h
      intro k hk
      rw [extAll_un r o1 o' h2 k fun p hp => hk p (by simp [hp]), extIn_un _ o o1 h1 k fun p hp => hk x (by simp) p.1 (List.of_mem_zip hp).1]
    · simp at h
theorem extF_un {l : List Tsr} {b : List (List Int)} {e : List Int} (h : extF l b = some e) {k : Nat} (hk : k < 5) (hm : ∀ x ∈ b.flatten, x.toNat ≠ k) : e.getD k 0 = -1 := by
  obtain ⟨h1, h2, h3, h4, h5⟩ := extF_len h
  unfold extF at h
  rw [if_pos ⟨h4, h5, h2⟩] at h
  rw [extAll_un _ _ _ h k fun p hp x hx => hm x (List.mem_flatten.2 ⟨p.2, (List.of_mem_zip hp).2, hx⟩)]
  match k, hk with
  | 0, _ => rfl
  | 1, _ => rfl
  | 2, _ => rfl
  | 3, _ => rfl
  | 4, _ => rfl
theorem flat_nn {b : List (List Int)} {e : List Int} (h : extNN e b) : ∀ x ∈ b.flatten, 0 ≤ e.getD x.toNat 0 := fun x hx => by
  rw [List.mem_flatten] at hx
  obtain ⟨r, hr, hx⟩ := hx
  obtain ⟨i, hi, rfl⟩ := List.mem_iff_getElem.1 hr
  exact h i hi x (by simp [hi]; exact hx)
theorem ext_lab {l : List Tsr} {b : List (List Int)} {e : List Int} (h : extF l b = some e) : ∀ k ∈ labs, e.getD k.toNat 0 = if b.flatten.contains k = true then e.getD k.toNat 0 else -1 := fun k hk => by
  have hk5 : 0 ≤ k ∧ k < 5 := by
    simp only [labs, List.mem_cons, List.not_mem_nil, or_false] at hk
    omega
  by_cases hc : b.flatten.contains k = true
  · rw [if_pos hc]
  · rw [if_neg hc]
    refine extF_un h (by omega) fun x hx hxk => hc (List.contains_iff_mem.2 ?_)
    have := srt_in (extF_facts h).1 x hx
    rwa [show k = x by omega]
theorem labs_ext {e : List Int} (h : e.length = 5) : labs.map (fun k => e.getD k.toNat 0) = e := by
  match e, h with
  | [a, b, c, d, f], _ => rfl
theorem cost_all {l : List Tsr} {b : List (List Int)} {e : List Int} (h : extF l b = some e) : costW e (srt b.flatten) = prodW (e.map pos1) := by
  have h1 := (extF_len h).1
  rw [cost_lab (srt_in (extF_facts h).1) (flat_nn (extF_facts h).2.1) (fun k => e.getD k.toNat 0) (ext_lab h), labs_ext h1]

/-! ### label after label, or rank after rank -/
def allV (e : List Int) : List Int → List Int → List (List Int)
  | [], nums => [nums]
  | u :: us, nums => (List.range (e.getD u.toNat 0).toNat).flatMap fun (x : Nat) => allV e us (nums.set u.toNat (x : Int))
theorem foldl_flat {α β γ : Type} (f : γ → β → γ) (g : α → List β) : ∀ (r : List α) (v : γ), (r.flatMap g).foldl f v = r.foldl (fun v x => (g x).foldl f v) v
  | [], v => rfl
  | x :: r, v => by rw [List.flatMap_cons, List.foldl_append, List.foldl_cons, foldl_flat f g r]
theorem sumV_all (l : List Tsr) (b : List (List Int)) (out sh e : List Int) : ∀ (us nums v : List Int), sumV l b out sh e us nums v = (allV e us nums).foldl (fun v al => stepS l b out sh al v) v
  | [], nums, v => rfl
  | u :: us, nums, v => by
    rw [sumV, allV, foldl_flat]
    congr 1
    funext v x
    exact sumV_all l b out sh e us _ v
theorem flat_one {α β : Type} (f : α → β) : ∀ r : List α, (r.flatMap fun x => [f x]) = r.map f
  | [] => rfl
  | x :: r => by rw [List.flatMap_cons, flat_one f r]; rfl
theorem allV_snoc (e : List Int) (w : Int) : ∀ (us nums : List Int), allV e (us ++ [w]) nums = (allV e us nums).flatMap fun n => (List.range (e.getD w.toNat 0).toNat).map fun (x : Nat) => n.set w.toNat (x : Int)
  | [], nums => by
    simp only [List.nil_append, allV, List.flatMap_cons, List.flatMap_nil, List.append_nil]
    exact flat_one _ _
  | u :: us, nums => by
    simp only [List.cons_append, allV, allV_snoc e w us, List.flatMap_assoc]
theorem allV_pos (e X : List Int) : ∀ (ls nums : List Int), ls.Pairwise (· ≠ ·) → (∀ u ∈ ls, 0 ≤ u) → (∀ u ∈ ls, nums.getD u.toNat 0 = 0) → (∀ u ∈ ls, X.contains u = true → 0 ≤ e.getD u.toNat 0) → (∀ u ∈ ls, X.contains u = false → e.getD u.toNat 0 = -1) → (∀ u ∈ ls, u.toNat < e.length) → (∀ u ∈ ls, u.toNat < nums.length) →
    allV (e.map pos1) ls nums = allV e (ls.filter fun k => X.contains k) nums
  | [], nums, _, _, _, _, _, _, _ => rfl
  | u :: us, nums, hp, hn, hz, h1, h2, h3, h4 => by
    rw [List.pairwise_cons] at hp
    have e1 : (e.map pos1).getD u.toNat 0 = pos1 (e.getD u.toNat 0) := by simp [h3 u (by simp)]
    have hrec : ∀ x : Int, allV (e.map pos1) us (nums.set u.toNat x) = allV e (us.filter fun k => X.contains k) (nums.set u.toNat x) := fun x =>
      allV_pos e X us _ hp.2 (fun w hw => hn w (by simp [hw])) (fun w hw => by
        rw [getD_set, if_neg]
        · exact hz w (by simp [hw])
        · intro hh
          have a1 := hn u (by simp)
          have a2 := hn w (by simp [hw])
          exact hp.1 w hw (by omega)) (fun w hw => h1 w (by simp [hw])) (fun w hw => h2 w (by simp [hw])) (fun w hw => h3 w (by simp [hw])) (fun w hw => by rw [List.length_set]; exact h4 w (by simp [hw]))
    cases hc : X.contains u with
    | true =>
      have hx := h1 u (by simp) hc
      rw [List.filter_cons_of_pos (by exact hc), allV, allV, e1, pos1, if_neg (by omega)]
      congr 1
      funext x
      exact hrec x
    | false =>
      rw [List.filter_cons_of_neg (by rw [hc]; exact Bool.false_ne_true), allV, e1, h2 u (by simp) hc]
      have hs : nums.set u.toNat (0 : Int) = nums := by
        refine ints_ext (by simp) fun i hi => ?_
        rw [getD_set]
        split
        · rename_i hh
          rw [← hh.1, hz u (by simp)]
        · rfl
      have := hrec 0
      rw [hs] at this
      show List.flatMap _ (List.range 1) = _
      rw [List.range_one, List.flatMap_cons, List.flatMap_nil, List.append_nil, ← this]
      show allV _ us (nums.set u.toNat (0 : Int)) = _
      rw [hs]
theorem range_mul (P d : Nat) : List.range (P * d) = (List.range P).flatMap fun q => (List.range d).map fun r => q * d + r := by
  induction P with
  | zero => simp
  | succ P ih => rw [Nat.succ_mul, List.range_add, ih, List.range_succ, List.flatMap_append, List.flatMap_cons, List.flatMap_nil, List.append_nil]
theorem unrF_snoc (s : List Int) (d k : Int) : unrF (s ++ [d]) k = unrF s (k.tdiv d) ++ [k.tmod d] := by
  unfold unrF
  rw [List.reverse_append, List.reverse_singleton, List.singleton_append, unrR, List.reverse_cons]
theorem unrF_qr (s : List Int) (d q r : Nat) (h : r < d) : unrF (s ++ [(d : Int)]) ((q * d + r : Nat) : Int) = unrF s q ++ [(r : Int)] := by
  rw [unrF_snoc, ← Int.ofNat_tdiv, ← Int.ofNat_tmod]
  have h1 : (q * d + r) / d = q := by rw [Nat.mul_comm, Nat.mul_add_div (by omega), Nat.div_eq_of_lt h, Nat.add_zero]
  have h2 : (q * d + r) % d = r := by rw [Nat.mul_comm, Nat.mul_add_mod, Nat.mod_eq_of_lt h]
  rw [h1, h2]
theorem prE_nn0 : ∀ {l : List Int}, (∀ x ∈ l, 0 ≤ x) → 0 ≤ prE l
  | [], _ => by decide
  | x :: r, h => Int.mul_nonneg (h x (by simp)) (prE_nn0 fun y hy => h y (by simp [hy]))
/-- the first m numbers run -/
theorem allV_unr {s : List Int} (hs : ∀ x ∈ s, 0 ≤ x) (us : List Int) : ∀ m, m ≤ s.length → us.length = s.length → (∀ i, i < us.length → us.getD i 0 = (i : Nat)) →
    allV s (us.take m) (List.replicate s.length 0) = (List.range (prE (s.take m)).toNat).map fun (k : Nat) => unrF (s.take m) k ++ List.replicate (s.length - m) 0
  | 0, hm, hl, hu => by
    simp only [List.take_zero, allV, prE, Nat.sub_zero]
    rfl
  | m + 1, hm, hl, hu => by
    have hx := hs (s.getD m 0) (gmem (by omega))
    have hum := hu m (by omega)
    rw [take_succ_getD (l := us) (by omega), hum, allV_snoc, allV_unr hs us m (by omega) hl hu, take_succ_getD (l := s) (by omega), prE_snoc]
    obtain ⟨d, hd⟩ : ∃ d : Nat, s.getD m 0 = d := ⟨(s.getD m 0).toNat, by omega⟩
    have hp : 0 ≤ prE (s.take m) := prE_nn0 fun x hx => hs x (List.mem_of_mem_take hx)
    obtain ⟨P, hP⟩ : ∃ P : Nat, prE (s.take m) = P := ⟨(prE (s.take m)).toNat, by omega⟩
    rw [hd, hP]
    have e1 : ((P : Int) * (d : Int)).toNat = P * d := by rw [← Int.natCast_mul]; rfl
    rw [e1, range_mul, List.map_flatMap, List.flatMap_map]
    have e2 : ((m : Nat) : Int).toNat = m := rfl
    have e3 : s.getD m 0 = d := hd
    simp only [Int.toNat_natCast]
    congr 1
    funext q
    rw [hd]
    simp only [Int.toNat_natCast, List.map_map]
    refine List.map_congr_left fun r hr => ?_
    have hr := List.mem_range.1 hr
    simp only [Function.comp]
    rw [unrF_qr _ _ _ _ hr]
    have hlen : (unrF (s.take m) q).length = m := by rw [unrF_len, List.length_take]; omega
    rw [List.set_append_right _ _ (by omega), hlen, Nat.sub_self, show s.length - m = (s.length - (m + 1)) + 1 by omega, List.replicate_succ, List.set_cons_zero]
    simp
theorem contrV_fold (l : List Tsr) (b : List (List Int)) (out sh s5 : List Int) : ∀ N, contrV l b out sh s5 N = ((List.range N).map fun (k : Nat) => unrF s5 k).foldl (fun v al => stepS l b out sh al v) (List.replicate (prodW sh).toNat 0)
  | 0 => rfl
  | N + 1 => by rw [contrV, contrV_fold l b out sh s5 N, List.range_succ, List.map_append, List.foldl_append]; rfl
theorem rep_getD (n k : Nat) : (List.replicate n (0 : Int)).getD k 0 = 0 := by
  rw [List.getD_eq_getElem?_getD, List.getElem?_replicate]
  split <;> rfl
theorem sum_contr {l : List Tsr} {b : List (List Int)} {out sh e : List Int} (h : extF l b = some e) : sumV l b out sh e (srt b.flatten) (List.replicate 5 0) (List.replicate (prodW sh).toNat 0) = contrV l b out sh (e.map pos1) (prodW (e.map pos1)).toNat := by
  have hx := extOK_of h
  have hel := hx.len
  have hf := extF_facts h
  have h1 : srt b.flatten = labs.filter fun k => b.flatten.contains k := by
    rw [asc_labs (srt_asc b.flatten) (fun x hx => srt_in hf.1 x ((srt_mem _ x).1 hx))]
    congr 1
    funext k
    rw [Bool.eq_iff_iff, List.contains_iff_mem, List.contains_iff_mem, srt_mem]
  have hlab : ∀ u ∈ labs, 0 ≤ u ∧ u < 5 := fun u hu => by
    simp only [labs, List.mem_cons, List.not_mem_nil, or_false] at hu
    omega
  have h2 := allV_pos e b.flatten labs (List.replicate 5 0) (by simp [labs]) (fun u hu => (hlab u hu).1) (fun u hu => rep_getD 5 u.toNat)
    (fun u hu hc => flat_nn hf.2.1 u (List.contains_iff_mem.1 hc))
    (fun u hu hc => by
      have := ext_lab h u hu
      rw [hc] at this
      exact this)
    (fun u hu => by have := hlab u hu; omega) (fun u hu => by have := hlab u hu; rw [List.length_replicate]; omega)
  have hml : (e.map pos1).length = 5 := by simp [hel]
  have hp := pos1_in hx.ub
  have h3 := allV_unr (s := e.map pos1) (fun x hx => (hp x hx).1) labs 5 (by omega) (by rw [hml]; rfl) (fun i hi => by
    match i, hi with
    | 0, _ => rfl
    | 1, _ => rfl
    | 2, _ => rfl
    | 3, _ => rfl
    | 4, _ => rfl)
  rw [List.take_of_length_le (l := e.map pos1) (by omega), hml] at h3
  have h4 : labs.take 5 = labs := rfl
  rw [h4, h2, ← h1] at h3
  rw [sumV_all, h3, contrV_fold, prodW_eq hp (by omega)]
  simp
end Go.Proofs.Ytjmkdnnfhphckaa
namespace Go.Proofs.Ytjmkdnnfhphckaa
open Go Go.Ev Go.RowKit Go.Ev.Enc Go.Pl

theorem evApp_i6 {B0 B1 B2 B3 B4 B5 : Blk} {L : List Blk} {n by' : Nat} {q : List Int} {x : Int} (hn : q.length = n) (h1 : (n + 1) * by' ≤ 140737488355328) (h2 : n + 1 ≤ 9223372036854775807) :
    evApp (B0 :: B1 :: B2 :: B3 :: B4 :: B5 :: ⟨1, q.map fun n => .int .i64 n⟩ :: L) (.sl 6 n 0 n n) [.int .i64 x] 1 by' = some (.sl 6 (n + 1) 0 (n + 1) (n + 1), B0 :: B1 :: B2 :: B3 :: B4 :: B5 :: ⟨1, (q ++ [x]).map fun n => .int .i64 n⟩ :: L) := evApp_int (L := B0 :: B1 :: B2 :: B3 :: B4 :: B5 :: ⟨1, q.map fun n => .int .i64 n⟩ :: L) (b := 6) rfl hn h1 h2
theorem dec_tsr0 (V : List Int) : (dec (.agg [.ds 0 [], .ds 0 (V.map fun n => .int .i64 n)]) : Option Tsr) = some ⟨[], V⟩ := (ok _ _).2 rfl
/-- blocks while the shape grows -/
def shB (l : List Tsr) (b : List (List Int)) (out e : List Int) : Nat → List Int → List Blk
  | 0, _ => [⟨1, [.ds 0 (l.map fun x => .agg [ints 0 x.sh, ints 0 x.vl])]⟩, ⟨1, [.ds 0 (b.map fun r => .ds 0 (r.map fun n => .int .i64 n))]⟩, ⟨1, [ints 0 out]⟩, ⟨2, [.agg [.nilS, .nilS]]⟩, ⟨1, [ints 1 e]⟩, ⟨2, [.agg [.nilS, .nilS]]⟩]
  | k + 1, q => [⟨1, [.ds 0 (l.map fun x => .agg [ints 0 x.sh, ints 0 x.vl])]⟩, ⟨1, [.ds 0 (b.map fun r => .ds 0 (r.map fun n => .int .i64 n))]⟩, ⟨1, [ints 0 out]⟩, ⟨2, [.agg [.nilS, .nilS]]⟩, ⟨1, [ints 1 e]⟩, ⟨2, [.agg [.sl 6 (k + 1) 0 (k + 1) (k + 1), .nilS]]⟩, ⟨1, q.map fun n => .int .i64 n⟩]
end Go.Proofs.Ytjmkdnnfhphckaa
namespace Go.Proofs.Ytjmkdnnfhphckaa
open Go Go.Ev Go.RowKit Go.Ev.Enc Go.Pl

end Go.Proofs.Ytjmkdnnfhphckaa
namespace Go.Proofs.Ytjmkdnnfhphckaa
open Go Go.Ev Go.RowKit Go.Ev.Enc Go.Pl

def traceR (r : Tsr × Bool) : Int × Bool := if r.2 = true then (r.1.vl.getD 0 0, true) else (0, false)
def trC (x : Tsr) : Option Tsr := (extF [x] [[0, 0]]).bind (contrF [x] [[0, 0]] [])
def gTrace (x : Tsr) : Option (Int × Bool) := gd (x.sh.length < 4294967296 ∧ x.vl.length < 4294967296) (traceR (tsrT (trC x)))
theorem gTrace_eq {x : Tsr} (h : x.sh.length < 4294967296 ∧ x.vl.length < 4294967296) : gTrace x = some (traceR (tsrT (trC x))) := gd_eq h
theorem sz1 {x : Tsr} (h : x.sh.length < 4294967296 ∧ x.vl.length < 4294967296) : szOK [x] [[0, 0]] :=
  ⟨(by decide : 1 < 4294967296), (by decide : 1 < 4294967296), fun k hk => by match k, hk with | 0, _ => exact h, fun k hk => by match k, hk with | 0, _ => decide⟩
theorem trC_len {x t : Tsr} (h : trC x = some t) : t.sh = [] ∧ t.vl.length = 1 := by
  unfold trC at h
  simp only [Option.bind_eq_some_iff] at h
  obtain ⟨e, _, h2⟩ := h
  unfold contrF at h2
  split at h2
  · have := Option.some.inj h2
    subst this
    exact ⟨rfl, by rw [contrV_len]; rfl⟩
  · simp at h2
theorem dec_t1 (x : Tsr) : (dec (.ds 0 [.agg [.ds 0 (x.sh.map fun n => .int .i64 n), .ds 0 (x.vl.map fun n => .int .i64 n)]]) : Option (List Tsr)) = some [x] := (ok _ _).2 rfl
theorem dec_00 : (dec (.ds 0 [.ds 0 [.int .i64 0, .int .i64 0]]) : Option (List (List Int))) = some [[0, 0]] := (ok _ _).2 rfl
theorem ee_t1 (L : List Blk) (x : Tsr) : expE (expC 0 L) (.ds 2 [.agg [ints 0 x.sh, ints 0 x.vl]]) = .ds 0 [.agg [.ds 0 (x.sh.map fun n => .int .i64 n), .ds 0 (x.vl.map fun n => .int .i64 n)]] := by
  simp [ints, expE, expC, stepC, Function.comp_def]
theorem ee_00 (L : List Blk) : expE (expC 0 L) (.ds 2 [.ds 2 [.int .i64 0, .int .i64 0]]) = .ds 0 [.ds 0 [.int .i64 0, .int .i64 0]] := rfl
theorem es_nil0 (L : List Blk) : expS 0 L 0 0 0 (some ⟨1, []⟩) = .ds 0 [] := by simp [expS]
def gTrueT (x : Tsr) : Option Bool := gd (tsrBig x) true
end Go.Proofs.Ytjmkdnnfhphckaa
namespace Go.Proofs.Ytjmkdnnfhphckaa
open Go Go.Ev Go.RowKit Go.Ev.Enc Go.Pl

/-- the numbers from k on -/
def mks (k : Int) (n : Nat) : List Int := (List.range n).map fun i : Nat => k + (i : Int)
theorem mks_len (k : Int) (n : Nat) : (mks k n).length = n := by simp [mks]
theorem mks_at {k : Int} {n i : Nat} (h : i < n) : (mks k n).getD i 0 = k + (i : Int) := by simp [mks, h]
def part (k : Int) (i : Nat) (l : List Int) : List Int := mks k i ++ l.drop i
theorem part_len {k : Int} {i : Nat} {l : List Int} (h : i ≤ l.length) : (part k i l).length = l.length := by simp [part, mks]; omega
theorem part_zero (k : Int) (l : List Int) : part k 0 l = l := rfl
theorem part_full (k : Int) (l : List Int) : part k l.length l = mks k l.length := by simp [part]
theorem part_set {k : Int} {i : Nat} {l : List Int} (h : i < l.length) : (part k i l).set i (k + (i : Int)) = part k (i + 1) l := by
  unfold part
  rw [List.set_append_right _ _ (by rw [mks_len]; exact Nat.le_refl _), mks_len, Nat.sub_self, List.drop_eq_getElem_cons h, List.set_cons_zero]
  unfold mks
  rw [List.range_succ, List.map_append, List.append_assoc]
  rfl
theorem wrap_mk {k : Int} {i : Nat} (hk : -1000000000000 ≤ k ∧ k ≤ 1000000000000) (hi : i < 4294967296) : IntKind.i64.wrap (k + (i : Int) + 1) = k + ((i + 1 : Nat) : Int) := by
  rw [wrap_in (by omega)]; omega

theorem renB_ints (g : Nat → Option Nat) (l : List Int) : renB g ⟨1, l.map fun n => .int .i64 n⟩ = ⟨1, l.map fun n => .int .i64 n⟩ := by simp [renB, renC, expE, Function.comp_def]
/-- a tensor in blocks of its own -/
abbrev tsrA (b c : Nat) (x : Tsr) : AV := .agg [.sl b x.sh.length 0 x.sh.length x.sh.length, .sl c x.vl.length 0 x.vl.length x.vl.length]
theorem one_ne {a b : Int} (h : a = b) : (!(a == b)) = false := by subst h; simp
def gHeldI (l : List Int) (k : Int) : Option Int := gd (l.length < 4294967296 ∧ 0 ≤ k ∧ k ≤ 1000000000000 ∧ l = mks k l.length) (k + l.length)
theorem gHeldI_eq {l : List Int} {k : Int} (h : l.length < 4294967296 ∧ 0 ≤ k ∧ k ≤ 1000000000000 ∧ l = mks k l.length) : gHeldI l k = some (k + l.length) := gd_eq h
def gHeldT (x : Tsr) (k : Int) : Option Int := gd (x.sh.length < 4294967296 ∧ x.vl.length < 4294967296 ∧ 0 ≤ k ∧ k ≤ 100000000000 ∧ x.sh = mks k x.sh.length ∧ x.vl = mks (k + x.sh.length) x.vl.length) (k + x.sh.length + x.vl.length)
theorem gHeldT_eq {x : Tsr} {k : Int} (h : x.sh.length < 4294967296 ∧ x.vl.length < 4294967296 ∧ 0 ≤ k ∧ k ≤ 100000000000 ∧ x.sh = mks k x.sh.length ∧ x.vl = mks (k + x.sh.length) x.vl.length) : gHeldT x k = some (k + x.sh.length + x.vl.length) := gd_eq h
/-! copies in blocks of their own -/
end Go.Proofs.Ytjmkdnnfhphckaa
namespace Go.Proofs.Ytjmkdnnfhphckaa
open Go Go.Ev Go.RowKit Go.Ev.Enc Go.Pl

def oR (r : Tsr × Bool) (n : Nat) : AV := match r.2, r.1.sh with
  | false, _ => .tup [.agg [.nilS, .nilS], .bool false]
  | true, [] => .tup [.agg [.nilS, .sl n r.1.vl.length 0 r.1.vl.length r.1.vl.length], .bool true]
  | true, _ :: _ => .tup [tsrA n (n + 1) r.1, .bool true]
def oN (r : Tsr × Bool) (_ : Nat) : List Blk := match r.2, r.1.sh with
  | false, _ => []
  | true, [] => [⟨1, r.1.vl.map fun n => .int .i64 n⟩]
  | true, _ :: _ => [⟨1, r.1.sh.map fun n => .int .i64 n⟩, ⟨1, r.1.vl.map fun n => .int .i64 n⟩]
theorem own_bad {x : Tsr} {L : List Blk} : OwnQ (oR (x, false)) (oN (x, false)) (.tup [.agg [.nilS, .nilS], .bool false]) L :=
  ⟨[], by simp, by simp, fun _ => rfl, fun _ => rfl⟩
theorem own_nil {V : List Int} {b : Nat} {L : List Blk} (h : L[b]? = some ⟨1, V.map fun n => .int .i64 n⟩) :
    OwnQ (oR (⟨[], V⟩, true)) (oN (⟨[], V⟩, true)) (.tup [.agg [.nilS, .sl b V.length 0 V.length V.length], .bool true]) L := by
  obtain ⟨hb, hb2⟩ := List.getElem?_eq_some_iff.1 h
  refine ⟨[b], by simp, by simpa using hb, fun n => ?_, fun n => ?_⟩
  · simp [oR, renV, expE, renC, gOf, List.idxOf?_cons]
  · simp [oN, renB, expE, renC, h, Function.comp_def]
theorem own_two {x : Tsr} {b c : Nat} {L : List Blk} (hb : L[b]? = some ⟨1, x.sh.map fun n => .int .i64 n⟩) (hc : L[c]? = some ⟨1, x.vl.map fun n => .int .i64 n⟩) (hbc : b ≠ c) (hx : x.sh ≠ []) :
    OwnQ (oR (x, true)) (oN (x, true)) (.tup [tsrA b c x, .bool true]) L := by
  obtain ⟨hb1, hb2⟩ := List.getElem?_eq_some_iff.1 hb
  obtain ⟨hc1, hc2⟩ := List.getElem?_eq_some_iff.1 hc
  obtain ⟨sh, vl⟩ := x
  cases sh with
  | nil => exact absurd rfl hx
  | cons a s =>
    refine ⟨[b, c], by simpa using hbc, by simp [hb1, hc1], fun n => ?_, fun n => ?_⟩
    · have : (b == c) = false := by simpa using hbc
      simp [oR, renV, expE, renC, gOf, List.idxOf?_cons, this, tsrA]
    · simp [oN, renB, expE, renC, hb, hc, Function.comp_def]
end Go.Proofs.Ytjmkdnnfhphckaa
namespace Go.Proofs.Ytjmkdnnfhphckaa
open Go Go.Ev Go.RowKit Go.Ev.Enc Go.Pl

def mmC (x y : Tsr) : Option Tsr := (extF [x, y] [[0, 1], [1, 2]]).bind (contrF [x, y] [[0, 1], [1, 2]] [0, 2])
def mmR (x y : Tsr) : Tsr × Bool := tsrT (mmC x y)
def mmB (x y : Tsr) : Prop := (x.sh.length < 4294967296 ∧ x.vl.length < 4294967296) ∧ (y.sh.length < 4294967296 ∧ y.vl.length < 4294967296)
instance (x y : Tsr) : Decidable (mmB x y) := by unfold mmB; infer_instance
def gMatMul (x y : Tsr) : Option (Tsr × Bool) := gd (mmB x y) (mmR x y)
theorem gMatMul_eq {x y : Tsr} (h : mmB x y) : gMatMul x y = some (mmR x y) := gd_eq h
theorem sz2 {x y : Tsr} (h : mmB x y) : szOK [x, y] [[0, 1], [1, 2]] :=
  ⟨(by decide : 2 < 4294967296), (by decide : 2 < 4294967296), fun k hk => by match k, hk with | 0, _ => exact h.1 | 1, _ => exact h.2, fun k hk => by match k, hk with | 0, _ => decide | 1, _ => decide⟩
theorem tsr_vl60 {t : Tsr} (h : tsrOK t = true) : t.vl.length ≤ 60 := by
  unfold tsrOK shapeOK at h
  simp only [Bool.and_eq_true, decide_eq_true_eq] at h
  omega
theorem mmC_len {x y t : Tsr} (h : mmC x y = some t) : t.sh.length = 2 := by
  unfold mmC at h
  simp only [Option.bind_eq_some_iff] at h
  obtain ⟨e, _, h2⟩ := h
  unfold contrF at h2
  split at h2
  · have := Option.some.inj h2
    subst this
    show (tkn e [0, 2]).length = 2
    rw [tkn_len]; rfl
  · simp at h2
/-- what a product may be -/
theorem mmR_cases (x y : Tsr) : mmR x y = (⟨[], []⟩, false) ∨ ∃ t, mmR x y = (t, true) ∧ t.sh.length = 2 ∧ t.vl.length ≤ 60 ∧ tsrOK t = true := by
  unfold mmR
  cases h : mmC x y with
  | none => exact .inl rfl
  | some t =>
    cases ht : tsrOK t with
    | false => exact .inl (by simp [tsrT, ht])
    | true => exact .inr ⟨t, by simp [tsrT, ht], mmC_len h, tsr_vl60 ht, ht⟩
theorem dec_t2 (x y : Tsr) : (dec (.ds 0 [.agg [.ds 0 (x.sh.map fun n => .int .i64 n), .ds 0 (x.vl.map fun n => .int .i64 n)], .agg [.ds 0 (y.sh.map fun n => .int .i64 n), .ds 0 (y.vl.map fun n => .int .i64 n)]]) : Option (List Tsr)) = some [x, y] := (ok _ _).2 rfl
theorem dec_0112 : (dec (.ds 0 [.ds 0 [.int .i64 0, .int .i64 1], .ds 0 [.int .i64 1, .int .i64 2]]) : Option (List (List Int))) = some [[0, 1], [1, 2]] := (ok _ _).2 rfl
theorem dec_02 : (dec (.ds 0 [.int .i64 0, .int .i64 2]) : Option (List Int)) = some [0, 2] := (ok _ _).2 rfl
theorem ee_t2 (L : List Blk) (x y : Tsr) : expE (expC 0 L) (.ds 2 [.agg [ints 0 x.sh, ints 0 x.vl], .agg [ints 0 y.sh, ints 0 y.vl]]) = .ds 0 [.agg [.ds 0 (x.sh.map fun n => .int .i64 n), .ds 0 (x.vl.map fun n => .int .i64 n)], .agg [.ds 0 (y.sh.map fun n => .int .i64 n), .ds 0 (y.vl.map fun n => .int .i64 n)]] := by
  simp [ints, expE, expC, stepC, Function.comp_def]
theorem ee_0112 (L : List Blk) : expE (expC 0 L) (.ds 2 [.ds 2 [.int .i64 0, .int .i64 1], .ds 2 [.int .i64 1, .int .i64 2]]) = .ds 0 [.ds 0 [.int .i64 0, .int .i64 1], .ds 0 [.int .i64 1, .int .i64 2]] := rfl
theorem ee_02 (L : List Blk) : expE (expC 0 L) (.ds 2 [.int .i64 0, .int .i64 2]) = .ds 0 [.int .i64 0, .int .i64 2] := rfl
end Go.Proofs.Ytjmkdnnfhphckaa
namespace Go.Proofs.Ytjmkdnnfhphckaa
open Go Go.Ev Go.RowKit Go.Ev.Enc Go.Pl

theorem oR_two {t : Tsr} (h : t.sh.length = 2) (n : Nat) : oR (t, true) n = .tup [tsrA n (n + 1) t, .bool true] := by
  obtain ⟨sh, vl⟩ := t
  match sh, h with
  | [a, b], _ => rfl
theorem oN_two {t : Tsr} (h : t.sh.length = 2) (n : Nat) : oN (t, true) n = [⟨1, t.sh.map fun n => .int .i64 n⟩, ⟨1, t.vl.map fun n => .int .i64 n⟩] := by
  obtain ⟨sh, vl⟩ := t
  match sh, h with
  | [a, b], _ => rfl
theorem mks_take (k : Int) (n : Nat) : (mks k n).take n = mks k n := List.take_of_length_le (by rw [mks_len]; exact Nat.le_refl _)
theorem dec_zz : (dec (.agg [.ds 0 [], .ds 0 []]) : Option Tsr) = some ⟨[], []⟩ := (ok _ _).2 rfl
theorem oR_bad (n : Nat) : oR (⟨[], []⟩, false) n = .tup [.agg [.nilS, .nilS], .bool false] := rfl
theorem oN_bad (n : Nat) : oN (⟨[], []⟩, false) n = [] := rfl
def gTrueM (x y : Tsr) : Option Bool := gd (tsrBig x ∧ tsrBig y) true
end Go.Proofs.Ytjmkdnnfhphckaa
