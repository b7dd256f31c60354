/- Contracts of functions that the laws of this seat call. -/
import Derived.Test.YtfjhhbpipococaaHa
set_option linter.all false
namespace Go.Proofs.Ytfjhhbpipococaa
open Go Go.Ev Go.RowKit Go.Ev.Enc Go.Pl

/-! ### the first tensor twice -/
def dbl (x : Tsr) : Tsr := ⟨x.sh, x.vl.map fun v => 2 * v⟩
def dbl1 : List Tsr → List Tsr
  | [] => []
  | x :: r => dbl x :: r
theorem dbl1_len : ∀ l : List Tsr, (dbl1 l).length = l.length
  | [] => rfl
  | x :: r => rfl
theorem map2_getD (l : List Int) (k : Nat) : (l.map fun v => 2 * v).getD k 0 = 2 * l.getD k 0 := by
  by_cases h : k < l.length
  · simp [h]
  · simp [List.getD_eq_getElem?_getD, List.getElem?_eq_none (Nat.le_of_not_lt h)]
theorem termS_dbl (x : Tsr) (r : List Tsr) (b : List (List Int)) (al : List Int) : ∀ k, IntKind.i64.wrap (termS (dbl x :: r) b al (k + 1)) = IntKind.i64.wrap (2 * termS (x :: r) b al (k + 1))
  | 0 => by
    simp only [termS, List.getD_cons_zero, Int.one_mul, dbl, map2_getD]
    rw [ww_idem, w_mulr]
  | k + 1 => by
    have e1 : termS (dbl x :: r) b al (k + 1 + 1) = IntKind.i64.wrap (termS (dbl x :: r) b al (k + 1) * (r.getD k ⟨[], []⟩).vl.getD (rankW (r.getD k ⟨[], []⟩).sh (tkn al (b.getD (k + 1) [])) (r.getD k ⟨[], []⟩).sh.length).toNat 0) := rfl
    have e2 : termS (x :: r) b al (k + 1 + 1) = IntKind.i64.wrap (termS (x :: r) b al (k + 1) * (r.getD k ⟨[], []⟩).vl.getD (rankW (r.getD k ⟨[], []⟩).sh (tkn al (b.getD (k + 1) [])) (r.getD k ⟨[], []⟩).sh.length).toNat 0) := rfl
    rw [e1, e2, ww_idem, w_mulr, ← w_mul, termS_dbl x r b al k, w_mul, Int.mul_assoc]
theorem sumG_w {l l' : List Tsr} {b b' : List (List Int)} {out sh e : List Int} {c : Int} {r : Nat} (h : ∀ al, IntKind.i64.wrap (termS l' b' al l'.length) = IntKind.i64.wrap (c * termS l b al l.length)) : ∀ (us nums : List Int),
    IntKind.i64.wrap (sumG l' b' out sh e r us nums) = IntKind.i64.wrap (c * sumG l b out sh e r us nums)
  | [], nums => by
    rw [sumG, sumG]
    split
    · exact h nums
    · rw [Int.mul_zero]
  | u :: us, nums => by
    rw [sumG, sumG, ← sumN_mul]
    exact sumN_wcongr fun i _ => sumG_w h us _
theorem extAll_same : ∀ (l l' : List Tsr) (b : List (List Int)) (o e e' : List Int), l.map (·.sh) = l'.map (·.sh) → extAll tsrOK o (l.zip b) = some e → extAll tsrOK o (l'.zip b) = some e' → e = e'
  | [], [], b, o, e, e', _, h1, h2 => by
    simp only [List.zip_nil_left, extAll, Option.some.injEq] at h1 h2
    rw [← h1, ← h2]
  | [], x :: l', b, o, e, e', h, _, _ => by simp at h
  | x :: l, [], b, o, e, e', h, _, _ => by simp at h
  | x :: l, x' :: l', [], o, e, e', _, h1, h2 => by
    simp only [List.zip_nil_right, extAll, Option.some.injEq] at h1 h2
    rw [← h1, ← h2]
  | x :: l, x' :: l', r :: b, o, e, e', h, h1, h2 => by
    simp only [List.map_cons, List.cons.injEq] at h
    simp only [List.zip_cons_cons, extAll] at h1 h2
    split at h1
    · split at h2
      · simp only [Option.bind_eq_some_iff] at h1 h2
        obtain ⟨o1, a1, a2⟩ := h1
        obtain ⟨o2, b1, b2⟩ := h2
        rw [← h.1, a1] at b1
        have := Option.some.inj b1
        subst this
        exact extAll_same l l' b o1 e e' h.2 a2 b2
      · simp at h2
    · simp at h1
theorem ext_same {l l' : List Tsr} {b : List (List Int)} {e e' : List Int} (h : l.map (·.sh) = l'.map (·.sh)) (h1 : extF l b = some e) (h2 : extF l' b = some e') : e = e' := by
  unfold extF at h1 h2
  split at h1
  · split at h2
    · exact extAll_same l l' b _ e e' h h1 h2
    · simp at h2
  · simp at h1
/-- **taken twice, it has values twice as great** -/
theorem contr_scale {l : List Tsr} {b : List (List Int)} {out : List Int} {t t' : Tsr} (h1 : (extF l b).bind (contrF l b out) = some t) (h2 : (extF (dbl1 l) b).bind (contrF (dbl1 l) b out) = some t') :
    t'.vl.length = t.vl.length ∧ ∀ r, r < t.vl.length → t'.vl.getD r 0 = IntKind.i64.wrap (2 * t.vl.getD r 0) := by
  simp only [Option.bind_eq_some_iff] at h1 h2
  obtain ⟨e, hE, hc⟩ := h1
  obtain ⟨e', hE', hc'⟩ := h2
  have hx := extOK_of hE
  have hl1 := hx.l1
  match l, hl1 with
  | x :: q, _ =>
    have he : e = e' := ext_same (by simp [dbl1, dbl]) hE hE'
    subst he
    obtain ⟨c1, c2, c3⟩ := contr_get hE hc
    obtain ⟨d1, d2, d3⟩ := contr_get hE' hc'
    refine ⟨by rw [c2, d2], fun r hr => ?_⟩
    rw [d3 r (by rw [d2, ← c2]; exact hr), c3 r hr, w_mulr]
    exact sumG_w (fun al => termS_dbl x q b al q.length) _ _

/-! ### the factors in another order -/
theorem extIn_ok (f : Nat → Int) : ∀ (z : List (Int × Int)) (o : List Int), o.length = 5 → (∀ p ∈ z, 0 ≤ p.1 ∧ p.1 < 5 ∧ f p.1.toNat = p.2) → (∀ k, k < 5 → 0 ≤ o.getD k 0 → o.getD k 0 = f k) →
    ∃ o', extIn o z = some o' ∧ o'.length = 5 ∧ (∀ k, k < 5 → 0 ≤ o'.getD k 0 → o'.getD k 0 = f k) ∧ ∀ k, k < 5 → ((∃ p ∈ z, p.1.toNat = k) → o'.getD k 0 = f k) ∧ ((∀ p ∈ z, p.1.toNat ≠ k) → o'.getD k 0 = o.getD k 0)
  | [], o, hl, _, ho => ⟨o, rfl, hl, ho, fun k hk => ⟨fun ⟨p, hp, _⟩ => by simp at hp, fun _ => rfl⟩⟩
  | q :: z, o, hl, hz, ho => by
    obtain ⟨q1, q2, q3⟩ := hz q (by simp)
    have hk : q.1.toNat < 5 := by omega
    have hset : ∀ k, k < 5 → (o.set q.1.toNat q.2).getD k 0 = if q.1.toNat = k then q.2 else o.getD k 0 := fun k hk' => by
      rw [getD_set]
      by_cases h : q.1.toNat = k
      · simp [h, hl, hk']
      · simp [h]
    obtain ⟨o', p1, p2, p3, p4⟩ := extIn_ok f z (o.set q.1.toNat q.2) (by simpa using hl) (fun p hp => hz p (by simp [hp])) (fun k hk' h0 => by
      rw [hset k hk'] at h0 ⊢
      split at h0
      · rename_i h; rw [if_pos h, ← q3, h]
      · rename_i h; rw [if_neg h]; exact ho k hk' h0)
    refine ⟨o', ?_, p2, p3, fun k hk' => ⟨fun ⟨p, hp, hpk⟩ => ?_, fun h => ?_⟩⟩
    · unfold extIn
      rw [if_neg]
      · exact p1
      · rintro ⟨a1, a2⟩
        exact a2 (by rw [ho _ hk a1, q3])
    · by_cases hin : ∃ p ∈ z, p.1.toNat = k
      · exact (p4 k hk').1 hin
      · rw [(p4 k hk').2 (fun p hp h => hin ⟨p, hp, h⟩), hset k hk']
        rcases List.mem_cons.1 hp with rfl | hp
        · rw [if_pos hpk, ← q3, hpk]
        · exact absurd ⟨p, hp, hpk⟩ hin
    · rw [(p4 k hk').2 (fun p hp => h p (by simp [hp])), hset k hk', if_neg (h q (by simp))]
theorem extAll_some (f : Nat → Int) : ∀ (z : List (Tsr × List Int)) (o : List Int), o.length = 5 → (∀ x ∈ z, tsrOK x.1 = true ∧ x.2.length = x.1.sh.length ∧ labOK x.2 = true ∧ ∀ p ∈ x.2.zip x.1.sh, 0 ≤ p.1 ∧ p.1 < 5 ∧ f p.1.toNat = p.2) →
    (∀ k, k < 5 → 0 ≤ o.getD k 0 → o.getD k 0 = f k) → ∃ o', extAll tsrOK o z = some o' ∧ o'.length = 5 ∧ ∀ k, k < 5 → ((∃ x ∈ z, ∃ p ∈ x.2.zip x.1.sh, p.1.toNat = k) → o'.getD k 0 = f k) ∧ ((∀ x ∈ z, ∀ p ∈ x.2.zip x.1.sh, p.1.toNat ≠ k) → o'.getD k 0 = o.getD k 0)
  | [], o, hl, _, _ => ⟨o, rfl, hl, fun k hk => ⟨fun ⟨p, hp, _⟩ => by simp at hp, fun _ => rfl⟩⟩
  | y :: z, o, hl, hz, ho => by
    obtain ⟨y1, y2, y3, y4⟩ := hz y (by simp)
    obtain ⟨o1, a1, a2, a3, a4⟩ := extIn_ok f (y.2.zip y.1.sh) o hl y4 ho
    obtain ⟨o', b1, b2, b3⟩ := extAll_some f z o1 a2 (fun x hx => hz x (by simp [hx])) a3
    refine ⟨o', ?_, b2, fun k hk => ⟨fun ⟨x, hx, p, hp, hpk⟩ => ?_, fun h => ?_⟩⟩
    · unfold extAll
      rw [if_pos ⟨y1, y2, y3⟩, a1]
      exact b1
    · by_cases hin : ∃ x ∈ z, ∃ p ∈ x.2.zip x.1.sh, p.1.toNat = k
      · exact (b3 k hk).1 hin
      · rw [(b3 k hk).2 (fun x hx p hp h => hin ⟨x, hx, p, hp, h⟩)]
        rcases List.mem_cons.1 hx with rfl | hx
        · exact (a4 k hk).1 ⟨p, hp, hpk⟩
        · exact absurd ⟨x, hx, p, hp, hpk⟩ hin
    · rw [(b3 k hk).2 (fun x hx p hp => h x (by simp [hx]) p hp), (a4 k hk).2 (fun p hp => h y (by simp) p hp)]
end Go.Proofs.Ytfjhhbpipococaa
