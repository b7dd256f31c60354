/- Contracts of functions that the laws of this seat call. -/
import Derived.Test.YtbibnkgcegbmiaaIb
set_option linter.all false
namespace Go.Proofs.Ytbibnkgcegbmiaa
open Go Go.Ev Go.RowKit Go.Ev.Enc Go.Pl

theorem turnV_get {a b : Nat} {vl : List Int} {i j : Nat} (hi : i < b) (hj : j < a) : (turnV a b vl (b * a)).getD (i * a + j) 0 = vl.getD (j * b + i) 0 := by
  have hlt : i * a + j < b * a := mul_lt_of hi hj
  have h1 : (i * a + j) % a = j := by rw [Nat.mul_comm, Nat.mul_add_mod]; exact Nat.mod_eq_of_lt hj
  have h2 : (i * a + j) / a = i := by rw [Nat.mul_comm, Nat.mul_add_div (by omega), Nat.div_eq_of_lt hj]; omega
  simp [turnV, hlt, h1, h2]
theorem turnX_eq {x : Tsr} {a b : Nat} (h : x.sh = [(a : Int), (b : Int)]) : turnX x = ⟨[(b : Int), (a : Int)], turnV a b x.vl (b * a)⟩ := by simp [turnX, h]
theorem prodW_two {a b : Nat} (ha : a ≤ 60) (hb : b ≤ 60) : prodW [(a : Int), (b : Int)] = ((a * b : Nat) : Int) := by
  have : a * b ≤ 60 * 60 := Nat.mul_le_mul ha hb
  simp only [prodW, List.foldl_cons, List.foldl_nil, Int.one_mul]
  rw [wrap_in (n := (a : Int)) (by omega), ← Int.natCast_mul, wrap_in (by omega)]
theorem shape_two {a b : Nat} (ha : a ≤ 60) (hb : b ≤ 60) : shapeOK [(a : Int), (b : Int)] = decide (a * b ≤ 60) := by
  unfold shapeOK inExt
  rw [prodW_two ha hb]
  have h1 : (a : Int) ≤ 60 := by omega
  have h2 : (b : Int) ≤ 60 := by omega
  have h3 : (0 : Int) ≤ (a : Int) := by omega
  have h4 : (0 : Int) ≤ (b : Int) := by omega
  simp only [List.length_cons, List.length_nil, List.all_cons, List.all_nil, h1, h2, h3, h4, decide_true, Bool.and_true, Bool.true_and]
  rw [Bool.eq_iff_iff]
  simp only [Bool.and_eq_true, decide_eq_true_eq]
  omega
theorem turn_ok {x : Tsr} {a b : Nat} (h : x.sh = [(a : Int), (b : Int)]) (hx : tsrOK x = true) (ha : a ≤ 60) (hb : b ≤ 60) (hl : x.vl.length = a * b) (hab : a * b ≤ 60) : tsrOK (turnX x) = true := by
  rw [turnX_eq h]
  unfold tsrOK at hx ⊢
  simp only [Bool.and_eq_true, decide_eq_true_eq] at hx ⊢
  refine ⟨⟨?_, ?_⟩, ?_⟩
  · rw [shape_two hb ha, decide_eq_true_eq, Nat.mul_comm]; exact hab
  · rw [turnV_len, prodW_two hb ha]
  · have h2 := hx.2
    rw [Bool.not_eq_true'] at h2 ⊢
    rw [List.any_eq_false] at h2 ⊢
    intro v hv
    simp only [turnV, List.mem_map, List.mem_range] at hv
    obtain ⟨k, hk, rfl⟩ := hv
    have ha0 : 0 < a := by rcases Nat.eq_zero_or_pos a with h | h; subst h; simp at hk; exact h
    have hlt : (k % a) * b + k / a < x.vl.length := by rw [hl]; exact mul_lt_of (Nat.mod_lt _ ha0) ((Nat.div_lt_iff_lt_mul ha0).2 hk)
    refine h2 _ ?_
    simp [hlt]
theorem extF_sh1 {x y : Tsr} {b : List (List Int)} (h1 : x.sh = y.sh) (h2 : tsrOK x = tsrOK y) : extF [x] b = extF [y] b := by
  unfold extF
  match b with
  | [] => rfl
  | r :: q =>
    simp only [List.zip_cons_cons, List.length_cons, List.length_nil, List.zip_nil_left, extAll, h1, h2]
theorem tr_turn {x : Tsr} {n : Nat} (h : x.sh = [(n : Int), (n : Int)]) (hx : tsrOK x = true) (hn : n ≤ 60) (hl : x.vl.length = n * n) (hnn : n * n ≤ 60) : trC (turnX x) = trC x := by
  have hsh : (turnX x).sh = x.sh := by rw [turnX_eq h, h]
  have hok : tsrOK (turnX x) = tsrOK x := by rw [hx]; exact turn_ok h hx hn hn hl hnn
  unfold trC
  rw [extF_sh1 hsh hok]
  cases hE : extF [x] [[0, 0]] with
  | none => rfl
  | some e =>
    have hE2 : extF [turnX x] [[0, 0]] = some e := by rw [extF_sh1 hsh hok]; exact hE
    simp only [Option.bind_some]
    cases hc : contrF [x] [[0, 0]] [] e with
    | none =>
      unfold contrF at hc ⊢
      split at hc
      · simp at hc
      · rename_i hn; rw [if_neg hn]
    | some t =>
      have hc2 : ∃ t2, contrF [turnX x] [[0, 0]] [] e = some t2 := by
        unfold contrF at hc ⊢
        split at hc
        · rename_i hp; rw [if_pos hp]; exact ⟨_, rfl⟩
        · simp at hc
      obtain ⟨t2, hc2⟩ := hc2
      rw [hc2]
      obtain ⟨n1, p1, p2, p3, p4, p5⟩ := tr_form (x := x) (t := t) (by unfold trC; rw [hE]; exact hc)
      obtain ⟨n2, q1, q2, q3, q4, q5⟩ := tr_form (x := turnX x) (t := t2) (by unfold trC; rw [hE2]; exact hc2)
      have l1 := trC_len (x := x) (t := t) (by unfold trC; rw [hE]; exact hc)
      have l2 := trC_len (x := turnX x) (t := t2) (by unfold trC; rw [hE2]; exact hc2)
      have e1 : n1 = n := by rw [h] at p1; simp at p1; omega
      have e2 : n2 = n := by rw [hsh, h] at q1; simp at q1; omega
      subst e1 e2
      have hv : t2.vl.getD 0 0 = t.vl.getD 0 0 := by
        rw [q5, p5]
        congr 1
        apply sumN_congr
        intro i hi
        rw [turnX_eq h]
        exact turnV_get hi hi
      obtain ⟨s1, v1⟩ := t
      obtain ⟨s2, v2⟩ := t2
      simp only at l1 l2 hv
      obtain ⟨rfl, l1⟩ := l1
      obtain ⟨rfl, l2⟩ := l2
      congr 2
      exact ints_ext (by omega) fun i hi => by
        have : i = 0 := by omega
        subst this; exact hv
end Go.Proofs.Ytbibnkgcegbmiaa
