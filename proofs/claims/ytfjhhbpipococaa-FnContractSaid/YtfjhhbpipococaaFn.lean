/- Contracts of functions that the laws of this seat call. -/
import Derived.Test.YtfjhhbpipococaaFm
set_option linter.all false
namespace Go.Proofs.Ytfjhhbpipococaa
open Go Go.Ev Go.RowKit Go.Ev.Enc Go.Pl

/-- a walk over all pairs i less than j -/
def inn {σ : Type} (f : σ → Nat → Nat → σ) (n i : Nat) : Nat → σ → σ
  | 0, s => s
  | k + 1, s => inn f n i k (f s i (n - (k + 1)))
def outW {σ : Type} (f : σ → Nat → Nat → σ) (n : Nat) : Nat → σ → σ
  | 0, s => s
  | k + 1, s => outW f n k (inn f n (n - (k + 1)) k s)
theorem inn_step {σ : Type} {f : σ → Nat → Nat → σ} {n i j : Nat} {s : σ} (h : j < n) : inn f n i (n - j) s = inn f n i (n - (j + 1)) (f s i j) := by
  rw [show n - j = (n - (j + 1)) + 1 by omega, inn]
  rw [show n - (n - (j + 1) + 1) = j by omega]
theorem outW_step {σ : Type} {f : σ → Nat → Nat → σ} {n i : Nat} {s : σ} (h : i < n) : outW f n (n - i) s = outW f n (n - (i + 1)) (inn f n i (n - (i + 1)) s) := by
  rw [show n - i = (n - (i + 1)) + 1 by omega, outW]
  rw [show n - (n - (i + 1) + 1) = i by omega]
def stp (c : Int → Int → Int) (p : Int × Int) (i j : Nat) : Int × Int := if c i j < c p.1 p.2 then ((i : Int), (j : Int)) else p
def stpS (c : Int → Int → Int) (p : Option (Int × Int)) (i j : Nat) : Option (Int × Int) :=
  match p with
  | none => some ((i : Int), (j : Int))
  | some q => some (stp c q i j)
theorem inn_some (c : Int → Int → Int) (n i : Nat) : ∀ k p, inn (stpS c) n i k (some p) = some (inn (stp c) n i k p)
  | 0, _ => rfl
  | k + 1, p => by rw [inn, inn]; exact inn_some c n i k _
theorem outW_some (c : Int → Int → Int) (n : Nat) : ∀ k p, outW (stpS c) n k (some p) = some (outW (stp c) n k p)
  | 0, _ => rfl
  | k + 1, p => by rw [outW, outW, inn_some]; exact outW_some c n k _
theorem best_two (c : Int → Int → Int) {n : Nat} (h : 2 ≤ n) : outW (stpS c) n n none = some (outW (stp c) n n (0, 1)) := by
  have h1 := outW_step (f := stpS c) (n := n) (i := 0) (s := none) (by omega)
  have h2 := outW_step (f := stp c) (n := n) (i := 0) (s := (0, 1)) (by omega)
  rw [Nat.sub_zero] at h1 h2
  rw [h1, h2, Nat.zero_add, inn_step (show 1 < n by omega), inn_step (show 1 < n by omega)]
  have e1 : stpS c none 0 1 = some (0, 1) := rfl
  have e2 : stp c (0, 1) 0 1 = (0, 1) := if_neg (Int.lt_irrefl _)
  rw [e1, e2, inn_some, outW_some]
theorem best_few (c : Int → Int → Int) {n : Nat} (h : n < 2) : outW (stpS c) n n none = none := by
  match n, h with
  | 0, _ => rfl
  | 1, _ => rfl
def pairR (p : Option (Int × Int)) : Int × Int :=
  match p with
  | none => (-1, -1)
  | some q => q
def bestF (l : List Tsr) (b : List (List Int)) (out : List Int) : Int × Int :=
  match extF l b with
  | none => (-1, -1)
  | some e => if labOK out = true then pairR (outW (stpS (costS e b out)) l.length l.length none) else (-1, -1)
def gBest (l : List Tsr) (b : List (List Int)) (out : List Int) : Option (Int × Int) := gd (szOK l b ∧ out.length ≤ 1048576) (bestF l b out)
theorem gBest_eq {l : List Tsr} {b : List (List Int)} {out : List Int} (h : szOK l b ∧ out.length ≤ 1048576) : gBest l b out = some (bestF l b out) := gd_eq h
/-- what the reference's variables hold -/
def bestRel (c : Int → Int → Int) (s : Option (Int × Int)) (x y v : Int) : Prop := (s = none ∧ x = -1 ∧ y = -1) ∨ (s = some (x, y) ∧ 0 ≤ x ∧ v = c x y)
set_option maxHeartbeats 2000000 in
set_option maxRecDepth 100000 in
theorem spec_BestPairS {Sg : FuncId → Option (List AV → Option AV)} (hS : Sound Try.prog Sg) (he : Sg 42 = some (F2 gExtentsOf)) (hi : Sg 44 = some (F3 gAllIn)) (hc : Sg 59 = some (F5 gCostBy)) : ∀ a r, F3 gBest a = some r → CSpec Try.prog 29 a r := by
  refine spec3 Try.func29 rfl Try.pf hS ?_
  intro l b out r hr
  obtain ⟨⟨h1, h2⟩, rfl⟩ := gd_some hr
  have b1 := h1.1
  cases hE : extF l b with
  | none =>
    have hF : bestF l b out = (-1, -1) := by rw [bestF, hE]
    rw [hF]
    repeat' (first | with_reducible refine RegQ.intro (by kernel_rfl) ?_ | ((with_reducible refine condQ_dec (fun hp => ?_) (fun hp => ?_)) <;> try simp only [hp]) | with_reducible refine condQ_beq (fun hp => ?_) (fun hp => ?_) | ((with_reducible refine wantQ_dec (fun hp => ?_) (fun hp => ?_)) <;> try simp only [hp]) | with_reducible refine wantQ_beq (fun hp => ?_) (fun hp => ?_) | ((with_reducible refine condQ_split (fun hp => ?_) (fun hp => ?_)) <;> try simp only [hp]) | ((with_reducible refine wantQ_split (fun hp => ?_) (fun hp => ?_)) <;> try simp only [hp]) | simp -implicitDefEqProofs (disch := omega) only [go_sem, Nat.reduceAdd, Nat.reduceSub, reduceCtorEq, Nat.reduceLT, Nat.reduceLeDiff, Nat.reduceEqDiff, Nat.reduceMul, Int.reduceToNat, ↓reduceIte, List.take_of_length_le, evApp_n1, evApp_i0, evApp_i1, evApp_i2, evApp_i3, evApp_i4, evApp_i5, evApp_s0, evApp_s1, evApp_s2, evApp_s3, if_pos, if_neg, decide_eq_true, decide_eq_false, beq_t, beq_f, wrap_succ, wrap_in, getD_ints, getD_intss, getD_tsrs, fillA_len, fillA_at, fillA_full, evApp_z0, evApp_z1, evApp_z2, evApp_z3, Try.ntmps29, Try.results29, he, gExtentsOf_eq h1, hE, extRes])
  | some e =>
    have hF : bestF l b out = if labOK out = true then pairR (outW (stpS (costS e b out)) l.length l.length none) else (-1, -1) := by rw [bestF, hE]
    rw [hF]
    clear hF
    obtain ⟨e1, e2, e3, e4, e5⟩ := extF_len hE
    have hi4 : rowsOK b := fun k hk => h1.2.2.2 k hk
    have hcc : ∀ i j : Nat, i < l.length → j < l.length → gCostBy e b out (i : Int) (j : Int) = some (costS e b out i j) := fun i j q1 q2 =>
      gCostBy_eq ⟨e1, ⟨⟨⟨by omega, by omega⟩, hi4⟩, by omega, by omega, by omega, by omega⟩⟩
    generalize costS e b out = C at hcc ⊢
    repeat' (first | with_reducible refine RegQ.intro (by kernel_rfl) ?_ | ((with_reducible refine condQ_dec (fun hp => ?_) (fun hp => ?_)) <;> try simp only [hp]) | with_reducible refine condQ_beq (fun hp => ?_) (fun hp => ?_) | ((with_reducible refine wantQ_dec (fun hp => ?_) (fun hp => ?_)) <;> try simp only [hp]) | with_reducible refine wantQ_beq (fun hp => ?_) (fun hp => ?_) | ((with_reducible refine condQ_split (fun hp => ?_) (fun hp => ?_)) <;> try simp only [hp]) | ((with_reducible refine wantQ_split (fun hp => ?_) (fun hp => ?_)) <;> try simp only [hp]) | simp -implicitDefEqProofs (disch := omega) only [go_sem, Nat.reduceAdd, Nat.reduceSub, reduceCtorEq, Nat.reduceLT, Nat.reduceLeDiff, Nat.reduceEqDiff, Nat.reduceMul, Int.reduceToNat, ↓reduceIte, List.take_of_length_le, evApp_n1, evApp_i0, evApp_i1, evApp_i2, evApp_i3, evApp_i4, evApp_i5, evApp_s0, evApp_s1, evApp_s2, evApp_s3, if_pos, if_neg, decide_eq_true, decide_eq_false, beq_t, beq_f, wrap_succ, wrap_in, getD_ints, getD_intss, getD_tsrs, fillA_len, fillA_at, fillA_full, evApp_z0, evApp_z1, evApp_z2, evApp_z3, Try.ntmps29, Try.results29, he, gExtentsOf_eq h1, hE, extRes, hi, gAllIn_eq, labOK_in])
    refine LoopQ.mix (fun t0 L0 nn ss => ∃ (i : Nat) (ba bb v : Int) (s : Option (Int × Int)) (_ : Unit), (∃ x : Nat → AV, ss = ⟨mixL 0 (.k :: .k :: .k :: .k :: .k :: .k :: .k :: .k :: .k :: .k :: .v (i64 ba) :: .v (i64 bb) :: .v (i64 v) :: .v (i64 (i : Nat)) :: .s :: .s :: .k :: .k :: .k :: .k :: .k :: .k :: .k :: .k :: .k :: .k :: .k :: .k :: .k :: .s :: .s :: .s :: .s :: .s :: .s :: .s :: .s :: .s :: .s :: .s :: .s :: .s :: .s :: .s :: .s :: .s :: .s :: .s :: .s :: .s :: .s :: .s :: .s :: .s :: .s :: .s :: .s :: .s :: .s :: .k :: .k :: []) t0 x, L0⟩) ∧ (i ≤ l.length) ∧ (bestRel C s ba bb v) ∧ (outW (stpS C) l.length (l.length - i) s = outW (stpS C) l.length l.length none) ∧ nn = l.length - i) ?_ ?_
    · exact ⟨_, ⟨0, -1, -1, 0, none, (), mixI rfl, Nat.zero_le _, .inl ⟨rfl, rfl, rfl⟩, by rw [Nat.sub_zero], rfl⟩⟩
    · rintro I0 hI0 nn ss ⟨i, ba, bb, v, s, _, ⟨z, rfl⟩, g1, g2, g3, rfl⟩
      by_cases hil : i < l.length
      · rw [outW_step hil] at g3
        repeat' (first | with_reducible refine RegQ.intro (by kernel_rfl) ?_ | ((with_reducible refine condQ_dec (fun hp => ?_) (fun hp => ?_)) <;> try simp only [hp]) | with_reducible refine condQ_beq (fun hp => ?_) (fun hp => ?_) | ((with_reducible refine wantQ_dec (fun hp => ?_) (fun hp => ?_)) <;> try simp only [hp]) | with_reducible refine wantQ_beq (fun hp => ?_) (fun hp => ?_) | ((with_reducible refine condQ_split (fun hp => ?_) (fun hp => ?_)) <;> try simp only [hp]) | ((with_reducible refine wantQ_split (fun hp => ?_) (fun hp => ?_)) <;> try simp only [hp]) | simp -implicitDefEqProofs (disch := omega) only [go_sem, Nat.reduceAdd, Nat.reduceSub, reduceCtorEq, Nat.reduceLT, Nat.reduceLeDiff, Nat.reduceEqDiff, Nat.reduceMul, Int.reduceToNat, ↓reduceIte, List.take_of_length_le, evApp_n1, evApp_i0, evApp_i1, evApp_i2, evApp_i3, evApp_i4, evApp_i5, evApp_s0, evApp_s1, evApp_s2, evApp_s3, if_pos, if_neg, decide_eq_true, decide_eq_false, beq_t, beq_f, wrap_succ, wrap_in, getD_ints, getD_intss, getD_tsrs, fillA_len, fillA_at, fillA_full, evApp_z0, evApp_z1, evApp_z2, evApp_z3, Try.ntmps29, Try.results29])
        generalize hJ : inn (stpS C) l.length i (l.length - (i + 1)) s = sj at g3
        refine LoopQ.mix (fun t0 L0 nn ss => ∃ (j : Nat) (ba bb v : Int) (s : Option (Int × Int)) (_ : Unit), (∃ x : Nat → AV, ss = ⟨mixL 0 (.k :: .k :: .k :: .k :: .k :: .k :: .k :: .k :: .k :: .k :: .v (i64 ba) :: .v (i64 bb) :: .v (i64 v) :: .k :: .v (i64 (j : Nat)) :: .s :: .k :: .k :: .k :: .k :: .k :: .k :: .k :: .k :: .k :: .k :: .k :: .k :: .k :: .k :: .k :: .k :: .k :: .k :: .k :: .k :: .k :: .s :: .s :: .s :: .s :: .s :: .s :: .s :: .s :: .s :: .s :: .s :: .s :: .s :: .s :: .s :: .s :: .s :: .s :: .s :: .s :: .s :: .s :: .k :: .k :: []) t0 x, L0⟩) ∧ (i + 1 ≤ j ∧ j ≤ l.length) ∧ (bestRel C s ba bb v) ∧ (inn (stpS C) l.length i (l.length - j) s = sj) ∧ nn = l.length - j) ?_ ?_
        · exact ⟨_, ⟨i + 1, ba, bb, v, s, (), mixI rfl, ⟨Nat.le_refl _, hil⟩, g2, hJ, rfl⟩⟩
        · rintro I1 hI1 nn ss ⟨j, ba, bb, v, s, _, ⟨z, rfl⟩, ⟨k1, k1'⟩, k2, k3, rfl⟩
          by_cases hjl : j < l.length
          · rw [inn_step hjl] at k3
            rcases k2 with ⟨rfl, rfl, rfl⟩ | ⟨rfl, k4, rfl⟩
            · repeat' (first | with_reducible refine RegQ.intro (by kernel_rfl) ?_ | ((with_reducible refine condQ_dec (fun hp => ?_) (fun hp => ?_)) <;> try simp only [hp]) | with_reducible refine condQ_beq (fun hp => ?_) (fun hp => ?_) | ((with_reducible refine wantQ_dec (fun hp => ?_) (fun hp => ?_)) <;> try simp only [hp]) | with_reducible refine wantQ_beq (fun hp => ?_) (fun hp => ?_) | ((with_reducible refine condQ_split (fun hp => ?_) (fun hp => ?_)) <;> try simp only [hp]) | ((with_reducible refine wantQ_split (fun hp => ?_) (fun hp => ?_)) <;> try simp only [hp]) | simp -implicitDefEqProofs (disch := omega) only [go_sem, Nat.reduceAdd, Nat.reduceSub, reduceCtorEq, Nat.reduceLT, Nat.reduceLeDiff, Nat.reduceEqDiff, Nat.reduceMul, Int.reduceToNat, ↓reduceIte, List.take_of_length_le, evApp_n1, evApp_i0, evApp_i1, evApp_i2, evApp_i3, evApp_i4, evApp_i5, evApp_s0, evApp_s1, evApp_s2, evApp_s3, if_pos, if_neg, decide_eq_true, decide_eq_false, beq_t, beq_f, wrap_succ, wrap_in, getD_ints, getD_intss, getD_tsrs, fillA_len, fillA_at, fillA_full, evApp_z0, evApp_z1, evApp_z2, evApp_z3, Try.ntmps29, Try.results29, hc, hcc])
              exact ⟨l.length - (j + 1), by omega, hI1 _ _ ⟨j + 1, _, _, _, _, (), mixI rfl, ⟨by omega, hjl⟩, .inr ⟨rfl, by omega, rfl⟩, k3, rfl⟩⟩
            · repeat' (first | with_reducible refine RegQ.intro (by kernel_rfl) ?_ | ((with_reducible refine condQ_dec (fun hp => ?_) (fun hp => ?_)) <;> try simp only [hp]) | with_reducible refine condQ_beq (fun hp => ?_) (fun hp => ?_) | ((with_reducible refine wantQ_dec (fun hp => ?_) (fun hp => ?_)) <;> try simp only [hp]) | with_reducible refine wantQ_beq (fun hp => ?_) (fun hp => ?_) | ((with_reducible refine condQ_split (fun hp => ?_) (fun hp => ?_)) <;> try simp only [hp]) | ((with_reducible refine wantQ_split (fun hp => ?_) (fun hp => ?_)) <;> try simp only [hp]) | simp -implicitDefEqProofs (disch := omega) only [go_sem, Nat.reduceAdd, Nat.reduceSub, reduceCtorEq, Nat.reduceLT, Nat.reduceLeDiff, Nat.reduceEqDiff, Nat.reduceMul, Int.reduceToNat, ↓reduceIte, List.take_of_length_le, evApp_n1, evApp_i0, evApp_i1, evApp_i2, evApp_i3, evApp_i4, evApp_i5, evApp_s0, evApp_s1, evApp_s2, evApp_s3, if_pos, if_neg, decide_eq_true, decide_eq_false, beq_t, beq_f, wrap_succ, wrap_in, getD_ints, getD_intss, getD_tsrs, fillA_len, fillA_at, fillA_full, evApp_z0, evApp_z1, evApp_z2, evApp_z3, Try.ntmps29, Try.results29, hc, hcc])
              · have e0 : stpS C (some (ba, bb)) i j = some ((i : Int), (j : Int)) := by rw [stpS, stp, if_pos hp]
                rw [e0] at k3
                exact ⟨l.length - (j + 1), by omega, hI1 _ _ ⟨j + 1, _, _, _, _, (), mixI rfl, ⟨by omega, hjl⟩, .inr ⟨rfl, by omega, rfl⟩, k3, rfl⟩⟩
              · have e0 : stpS C (some (ba, bb)) i j = some (ba, bb) := by rw [stpS, stp, if_neg hp]
                rw [e0] at k3
                exact ⟨l.length - (j + 1), by omega, hI1 _ _ ⟨j + 1, _, _, _, _, (), mixI rfl, ⟨by omega, hjl⟩, .inr ⟨rfl, k4, rfl⟩, k3, rfl⟩⟩
          · obtain rfl : j = l.length := by omega
            rw [Nat.sub_self] at k3
            have k3 : s = sj := k3
            subst k3
            repeat' (first | with_reducible refine RegQ.intro (by kernel_rfl) ?_ | ((with_reducible refine condQ_dec (fun hp => ?_) (fun hp => ?_)) <;> try simp only [hp]) | with_reducible refine condQ_beq (fun hp => ?_) (fun hp => ?_) | ((with_reducible refine wantQ_dec (fun hp => ?_) (fun hp => ?_)) <;> try simp only [hp]) | with_reducible refine wantQ_beq (fun hp => ?_) (fun hp => ?_) | ((with_reducible refine condQ_split (fun hp => ?_) (fun hp => ?_)) <;> try simp only [hp]) | ((with_reducible refine wantQ_split (fun hp => ?_) (fun hp => ?_)) <;> try simp only [hp]) | simp -implicitDefEqProofs (disch := omega) only [go_sem, Nat.reduceAdd, Nat.reduceSub, reduceCtorEq, Nat.reduceLT, Nat.reduceLeDiff, Nat.reduceEqDiff, Nat.reduceMul, Int.reduceToNat, ↓reduceIte, List.take_of_length_le, evApp_n1, evApp_i0, evApp_i1, evApp_i2, evApp_i3, evApp_i4, evApp_i5, evApp_s0, evApp_s1, evApp_s2, evApp_s3, if_pos, if_neg, decide_eq_true, decide_eq_false, beq_t, beq_f, wrap_succ, wrap_in, getD_ints, getD_intss, getD_tsrs, fillA_len, fillA_at, fillA_full, evApp_z0, evApp_z1, evApp_z2, evApp_z3, Try.ntmps29, Try.results29])
            exact ⟨l.length - (i + 1), by omega, hI0 _ _ ⟨i + 1, _, _, _, _, (), mixI rfl, hil, k2, g3, rfl⟩⟩
      · obtain rfl : i = l.length := by omega
        rw [Nat.sub_self] at g3
        repeat' (first | with_reducible refine RegQ.intro (by kernel_rfl) ?_ | ((with_reducible refine condQ_dec (fun hp => ?_) (fun hp => ?_)) <;> try simp only [hp]) | with_reducible refine condQ_beq (fun hp => ?_) (fun hp => ?_) | ((with_reducible refine wantQ_dec (fun hp => ?_) (fun hp => ?_)) <;> try simp only [hp]) | with_reducible refine wantQ_beq (fun hp => ?_) (fun hp => ?_) | ((with_reducible refine condQ_split (fun hp => ?_) (fun hp => ?_)) <;> try simp only [hp]) | ((with_reducible refine wantQ_split (fun hp => ?_) (fun hp => ?_)) <;> try simp only [hp]) | simp -implicitDefEqProofs (disch := omega) only [go_sem, Nat.reduceAdd, Nat.reduceSub, reduceCtorEq, Nat.reduceLT, Nat.reduceLeDiff, Nat.reduceEqDiff, Nat.reduceMul, Int.reduceToNat, ↓reduceIte, List.take_of_length_le, evApp_n1, evApp_i0, evApp_i1, evApp_i2, evApp_i3, evApp_i4, evApp_i5, evApp_s0, evApp_s1, evApp_s2, evApp_s3, if_pos, if_neg, decide_eq_true, decide_eq_false, beq_t, beq_f, wrap_succ, wrap_in, getD_ints, getD_intss, getD_tsrs, fillA_len, fillA_at, fillA_full, evApp_z0, evApp_z1, evApp_z2, evApp_z3, Try.ntmps29, Try.results29])
        rw [← g3]
        rcases g2 with ⟨rfl, rfl, rfl⟩ | ⟨rfl, k4, rfl⟩
        · rfl
        · rfl

set_option maxHeartbeats 2000000 in
set_option maxRecDepth 100000 in
theorem spec_BestPairI {Sg : FuncId → Option (List AV → Option AV)} (hS : Sound Try.prog Sg) (he : Sg 48 = some (F2 gExtentsOf)) (hi : Sg 50 = some (F1 gAreLabels)) (hc : Sg 58 = some (F5 gCostI)) : ∀ a r, F3 gBest a = some r → CSpec Try.prog 28 a r := by
  refine spec3 Try.func28 rfl Try.pf hS ?_
  intro l b out r hr
  obtain ⟨⟨h1, h2⟩, rfl⟩ := gd_some hr
  have b1 := h1.1
  cases hE : extF l b with
  | none =>
    have hF : bestF l b out = (-1, -1) := by rw [bestF, hE]
    rw [hF]
    repeat' (first | with_reducible refine RegQ.intro (by kernel_rfl) ?_ | ((with_reducible refine condQ_dec (fun hp => ?_) (fun hp => ?_)) <;> try simp only [hp]) | with_reducible refine condQ_beq (fun hp => ?_) (fun hp => ?_) | ((with_reducible refine wantQ_dec (fun hp => ?_) (fun hp => ?_)) <;> try simp only [hp]) | with_reducible refine wantQ_beq (fun hp => ?_) (fun hp => ?_) | ((with_reducible refine condQ_split (fun hp => ?_) (fun hp => ?_)) <;> try simp only [hp]) | ((with_reducible refine wantQ_split (fun hp => ?_) (fun hp => ?_)) <;> try simp only [hp]) | simp -implicitDefEqProofs (disch := omega) only [go_sem, Nat.reduceAdd, Nat.reduceSub, reduceCtorEq, Nat.reduceLT, Nat.reduceLeDiff, Nat.reduceEqDiff, Nat.reduceMul, Int.reduceToNat, ↓reduceIte, List.take_of_length_le, evApp_n1, evApp_i0, evApp_i1, evApp_i2, evApp_i3, evApp_i4, evApp_i5, evApp_s0, evApp_s1, evApp_s2, evApp_s3, if_pos, if_neg, decide_eq_true, decide_eq_false, beq_t, beq_f, wrap_succ, wrap_in, getD_ints, getD_intss, getD_tsrs, fillA_len, fillA_at, fillA_full, evApp_z0, evApp_z1, evApp_z2, evApp_z3, Try.ntmps28, Try.results28, he, gExtentsOf_eq h1, hE, extRes])
  | some e =>
    have hF : bestF l b out = if labOK out = true then pairR (outW (stpS (costS e b out)) l.length l.length none) else (-1, -1) := by rw [bestF, hE]
    rw [hF]
    clear hF
    obtain ⟨e1, e2, e3, e4, e5⟩ := extF_len hE
    obtain ⟨f1, f2, f3⟩ := extF_facts hE
    have hcc : ∀ i j : Nat, i < l.length → j < l.length → gCostI e b out (i : Int) (j : Int) = some (costS e b out i j) := fun i j q1 q2 => by
      have hpi : pairIn b.length (i : Int) (j : Int) := ⟨by omega, by omega, by omega, by omega⟩
      rw [gCostI_eq ⟨e1, ⟨⟨⟨by omega, by omega⟩, fun k hk => by have := f3 k hk; omega⟩, hpi⟩, f1⟩, cost_eq hpi f1 f2]
    generalize costS e b out = C at hcc ⊢
    by_cases hl2 : l.length < 2
    · rw [best_few C hl2]
      repeat' (first | with_reducible refine RegQ.intro (by kernel_rfl) ?_ | ((with_reducible refine condQ_dec (fun hp => ?_) (fun hp => ?_)) <;> try simp only [hp]) | with_reducible refine condQ_beq (fun hp => ?_) (fun hp => ?_) | ((with_reducible refine wantQ_dec (fun hp => ?_) (fun hp => ?_)) <;> try simp only [hp]) | with_reducible refine wantQ_beq (fun hp => ?_) (fun hp => ?_) | ((with_reducible refine condQ_split (fun hp => ?_) (fun hp => ?_)) <;> try simp only [hp]) | ((with_reducible refine wantQ_split (fun hp => ?_) (fun hp => ?_)) <;> try simp only [hp]) | simp -implicitDefEqProofs (disch := omega) only [go_sem, Nat.reduceAdd, Nat.reduceSub, reduceCtorEq, Nat.reduceLT, Nat.reduceLeDiff, Nat.reduceEqDiff, Nat.reduceMul, Int.reduceToNat, ↓reduceIte, List.take_of_length_le, evApp_n1, evApp_i0, evApp_i1, evApp_i2, evApp_i3, evApp_i4, evApp_i5, evApp_s0, evApp_s1, evApp_s2, evApp_s3, if_pos, if_neg, decide_eq_true, decide_eq_false, beq_t, beq_f, wrap_succ, wrap_in, getD_ints, getD_intss, getD_tsrs, fillA_len, fillA_at, fillA_full, evApp_z0, evApp_z1, evApp_z2, evApp_z3, Try.ntmps28, Try.results28, he, gExtentsOf_eq h1, hE, extRes, hi, gAreLabels_eq])
      all_goals rfl
    · rw [best_two C (by omega)]
      repeat' (first | with_reducible refine RegQ.intro (by kernel_rfl) ?_ | ((with_reducible refine condQ_dec (fun hp => ?_) (fun hp => ?_)) <;> try simp only [hp]) | with_reducible refine condQ_beq (fun hp => ?_) (fun hp => ?_) | ((with_reducible refine wantQ_dec (fun hp => ?_) (fun hp => ?_)) <;> try simp only [hp]) | with_reducible refine wantQ_beq (fun hp => ?_) (fun hp => ?_) | ((with_reducible refine condQ_split (fun hp => ?_) (fun hp => ?_)) <;> try simp only [hp]) | ((with_reducible refine wantQ_split (fun hp => ?_) (fun hp => ?_)) <;> try simp only [hp]) | simp -implicitDefEqProofs (disch := omega) only [go_sem, Nat.reduceAdd, Nat.reduceSub, reduceCtorEq, Nat.reduceLT, Nat.reduceLeDiff, Nat.reduceEqDiff, Nat.reduceMul, Int.reduceToNat, ↓reduceIte, List.take_of_length_le, evApp_n1, evApp_i0, evApp_i1, evApp_i2, evApp_i3, evApp_i4, evApp_i5, evApp_s0, evApp_s1, evApp_s2, evApp_s3, if_pos, if_neg, decide_eq_true, decide_eq_false, beq_t, beq_f, wrap_succ, wrap_in, getD_ints, getD_intss, getD_tsrs, fillA_len, fillA_at, fillA_full, evApp_z0, evApp_z1, evApp_z2, evApp_z3, Try.ntmps28, Try.results28, he, gExtentsOf_eq h1, hE, extRes, hi, gAreLabels_eq])
      refine LoopQ.mix (fun t0 L0 nn ss => ∃ (i : Nat) (ba bb : Nat) (_ : Unit), (∃ x : Nat → AV, ss = ⟨mixL 0 (.k :: .k :: .k :: .k :: .k :: .k :: .k :: .k :: .k :: .k :: .v (i64 (ba : Nat)) :: .v (i64 (bb : Nat)) :: .s :: .s :: .k :: .k :: .k :: .k :: .k :: .k :: .k :: .k :: .k :: .k :: .k :: .k :: .k :: .k :: .k :: .k :: .k :: .k :: .k :: .k :: .v (i64 (i : Nat)) :: .s :: .s :: .s :: .s :: .s :: .s :: .s :: .s :: .s :: .s :: .s :: .s :: .s :: .s :: .s :: .s :: .s :: .s :: .s :: .s :: .s :: .s :: .s :: .s :: .s :: .s :: .k :: .k :: []) t0 x, L0⟩) ∧ (i ≤ l.length) ∧ (ba < l.length ∧ bb < l.length) ∧ (outW (stp C) l.length (l.length - i) ((ba : Int), (bb : Int)) = outW (stp C) l.length l.length (0, 1)) ∧ nn = l.length - i) ?_ ?_
      · exact ⟨_, ⟨0, 0, 1, (), mixI rfl, Nat.zero_le _, ⟨by omega, by omega⟩, by rw [Nat.sub_zero]; rfl, rfl⟩⟩
      · rintro I0 hI0 nn ss ⟨i, ba, bb, _, ⟨z, rfl⟩, g1, ⟨g2, g2'⟩, g3, rfl⟩
        by_cases hil : i < l.length
        · rw [outW_step hil] at g3
          repeat' (first | with_reducible refine RegQ.intro (by kernel_rfl) ?_ | ((with_reducible refine condQ_dec (fun hp => ?_) (fun hp => ?_)) <;> try simp only [hp]) | with_reducible refine condQ_beq (fun hp => ?_) (fun hp => ?_) | ((with_reducible refine wantQ_dec (fun hp => ?_) (fun hp => ?_)) <;> try simp only [hp]) | with_reducible refine wantQ_beq (fun hp => ?_) (fun hp => ?_) | ((with_reducible refine condQ_split (fun hp => ?_) (fun hp => ?_)) <;> try simp only [hp]) | ((with_reducible refine wantQ_split (fun hp => ?_) (fun hp => ?_)) <;> try simp only [hp]) | simp -implicitDefEqProofs (disch := omega) only [go_sem, Nat.reduceAdd, Nat.reduceSub, reduceCtorEq, Nat.reduceLT, Nat.reduceLeDiff, Nat.reduceEqDiff, Nat.reduceMul, Int.reduceToNat, ↓reduceIte, List.take_of_length_le, evApp_n1, evApp_i0, evApp_i1, evApp_i2, evApp_i3, evApp_i4, evApp_i5, evApp_s0, evApp_s1, evApp_s2, evApp_s3, if_pos, if_neg, decide_eq_true, decide_eq_false, beq_t, beq_f, wrap_succ, wrap_in, getD_ints, getD_intss, getD_tsrs, fillA_len, fillA_at, fillA_full, evApp_z0, evApp_z1, evApp_z2, evApp_z3, Try.ntmps28, Try.results28])
          generalize hJ : inn (stp C) l.length i (l.length - (i + 1)) ((ba : Int), (bb : Int)) = sj at g3
          refine LoopQ.mix (fun t0 L0 nn ss => ∃ (j : Nat) (ba bb : Nat) (_ : Unit), (∃ x : Nat → AV, ss = ⟨mixL 0 (.k :: .k :: .k :: .k :: .k :: .k :: .k :: .k :: .k :: .k :: .v (i64 (ba : Nat)) :: .v (i64 (bb : Nat)) :: .k :: .v (i64 (j : Nat)) :: .k :: .k :: .k :: .k :: .k :: .k :: .k :: .k :: .k :: .k :: .k :: .k :: .k :: .k :: .k :: .k :: .k :: .k :: .k :: .k :: .k :: .k :: .k :: .k :: .k :: .s :: .s :: .s :: .s :: .s :: .s :: .s :: .s :: .s :: .s :: .s :: .s :: .s :: .s :: .s :: .s :: .s :: .s :: .s :: .s :: .s :: .k :: .k :: .k :: []) t0 x, L0⟩) ∧ (i + 1 ≤ j ∧ j ≤ l.length) ∧ (ba < l.length ∧ bb < l.length) ∧ (inn (stp C) l.length i (l.length - j) ((ba : Int), (bb : Int)) = sj) ∧ nn = l.length - j) ?_ ?_
          · exact ⟨_, ⟨i + 1, ba, bb, (), mixI rfl, ⟨Nat.le_refl _, hil⟩, ⟨g2, g2'⟩, hJ, rfl⟩⟩
          · rintro I1 hI1 nn ss ⟨j, ba, bb, _, ⟨z, rfl⟩, ⟨k1, k1'⟩, ⟨k2, k2'⟩, k3, rfl⟩
            by_cases hjl : j < l.length
            · rw [inn_step hjl] at k3
              repeat' (first | with_reducible refine RegQ.intro (by kernel_rfl) ?_ | ((with_reducible refine condQ_dec (fun hp => ?_) (fun hp => ?_)) <;> try simp only [hp]) | with_reducible refine condQ_beq (fun hp => ?_) (fun hp => ?_) | ((with_reducible refine wantQ_dec (fun hp => ?_) (fun hp => ?_)) <;> try simp only [hp]) | with_reducible refine wantQ_beq (fun hp => ?_) (fun hp => ?_) | ((with_reducible refine condQ_split (fun hp => ?_) (fun hp => ?_)) <;> try simp only [hp]) | ((with_reducible refine wantQ_split (fun hp => ?_) (fun hp => ?_)) <;> try simp only [hp]) | simp -implicitDefEqProofs (disch := omega) only [go_sem, Nat.reduceAdd, Nat.reduceSub, reduceCtorEq, Nat.reduceLT, Nat.reduceLeDiff, Nat.reduceEqDiff, Nat.reduceMul, Int.reduceToNat, ↓reduceIte, List.take_of_length_le, evApp_n1, evApp_i0, evApp_i1, evApp_i2, evApp_i3, evApp_i4, evApp_i5, evApp_s0, evApp_s1, evApp_s2, evApp_s3, if_pos, if_neg, decide_eq_true, decide_eq_false, beq_t, beq_f, wrap_succ, wrap_in, getD_ints, getD_intss, getD_tsrs, fillA_len, fillA_at, fillA_full, evApp_z0, evApp_z1, evApp_z2, evApp_z3, Try.ntmps28, Try.results28, hc, hcc])
              · have e0 : stp C ((ba : Int), (bb : Int)) i j = ((i : Int), (j : Int)) := by rw [stp, if_pos hp]
                rw [e0] at k3
                exact ⟨l.length - (j + 1), by omega, hI1 _ _ ⟨j + 1, i, j, (), mixI rfl, ⟨by omega, hjl⟩, ⟨hil, hjl⟩, k3, rfl⟩⟩
              · have e0 : stp C ((ba : Int), (bb : Int)) i j = ((ba : Int), (bb : Int)) := by rw [stp, if_neg hp]
                rw [e0] at k3
                exact ⟨l.length - (j + 1), by omega, hI1 _ _ ⟨j + 1, _, _, (), mixI rfl, ⟨by omega, hjl⟩, ⟨k2, k2'⟩, k3, rfl⟩⟩
            · obtain rfl : j = l.length := by omega
              rw [Nat.sub_self] at k3
              have k3 : ((ba : Int), (bb : Int)) = sj := k3
              subst k3
              repeat' (first | with_reducible refine RegQ.intro (by kernel_rfl) ?_ | ((with_reducible refine condQ_dec (fun hp => ?_) (fun hp => ?_)) <;> try simp only [hp]) | with_reducible refine condQ_beq (fun hp => ?_) (fun hp => ?_) | ((with_reducible refine wantQ_dec (fun hp => ?_) (fun hp => ?_)) <;> try simp only [hp]) | with_reducible refine wantQ_beq (fun hp => ?_) (fun hp => ?_) | ((with_reducible refine condQ_split (fun hp => ?_) (fun hp => ?_)) <;> try simp only [hp]) | ((with_reducible refine wantQ_split (fun hp => ?_) (fun hp => ?_)) <;> try simp only [hp]) | simp -implicitDefEqProofs (disch := omega) only [go_sem, Nat.reduceAdd, Nat.reduceSub, reduceCtorEq, Nat.reduceLT, Nat.reduceLeDiff, Nat.reduceEqDiff, Nat.reduceMul, Int.reduceToNat, ↓reduceIte, List.take_of_length_le, evApp_n1, evApp_i0, evApp_i1, evApp_i2, evApp_i3, evApp_i4, evApp_i5, evApp_s0, evApp_s1, evApp_s2, evApp_s3, if_pos, if_neg, decide_eq_true, decide_eq_false, beq_t, beq_f, wrap_succ, wrap_in, getD_ints, getD_intss, getD_tsrs, fillA_len, fillA_at, fillA_full, evApp_z0, evApp_z1, evApp_z2, evApp_z3, Try.ntmps28, Try.results28])
              exact ⟨l.length - (i + 1), by omega, hI0 _ _ ⟨i + 1, _, _, (), mixI rfl, hil, ⟨k2, k2'⟩, g3, rfl⟩⟩
        · obtain rfl : i = l.length := by omega
          rw [Nat.sub_self] at g3
          repeat' (first | with_reducible refine RegQ.intro (by kernel_rfl) ?_ | ((with_reducible refine condQ_dec (fun hp => ?_) (fun hp => ?_)) <;> try simp only [hp]) | with_reducible refine condQ_beq (fun hp => ?_) (fun hp => ?_) | ((with_reducible refine wantQ_dec (fun hp => ?_) (fun hp => ?_)) <;> try simp only [hp]) | with_reducible refine wantQ_beq (fun hp => ?_) (fun hp => ?_) | ((with_reducible refine condQ_split (fun hp => ?_) (fun hp => ?_)) <;> try simp only [hp]) | ((with_reducible refine wantQ_split (fun hp => ?_) (fun hp => ?_)) <;> try simp only [hp]) | simp -implicitDefEqProofs (disch := omega) only [go_sem, Nat.reduceAdd, Nat.reduceSub, reduceCtorEq, Nat.reduceLT, Nat.reduceLeDiff, Nat.reduceEqDiff, Nat.reduceMul, Int.reduceToNat, ↓reduceIte, List.take_of_length_le, evApp_n1, evApp_i0, evApp_i1, evApp_i2, evApp_i3, evApp_i4, evApp_i5, evApp_s0, evApp_s1, evApp_s2, evApp_s3, if_pos, if_neg, decide_eq_true, decide_eq_false, beq_t, beq_f, wrap_succ, wrap_in, getD_ints, getD_intss, getD_tsrs, fillA_len, fillA_at, fillA_full, evApp_z0, evApp_z1, evApp_z2, evApp_z3, Try.ntmps28, Try.results28])
          rw [← g3]; rfl
def gTrue3 (l : List Tsr) (b : List (List Int)) (out : List Int) : Option Bool := gd ((l.length ≤ 9223372036854775807 ∧ b.length ≤ 9223372036854775807 ∧ out.length ≤ 9223372036854775807) ∧ tsrsBig l ∧ bigRows b) true
end Go.Proofs.Ytfjhhbpipococaa
