/- Contracts of functions that the laws of this seat call. -/
import Derived.Test.YtfjhhbpipococaaHa
import Derived.Test.YtfjhhbpipococaaFy
set_option linter.all false
namespace Go.Proofs.Ytfjhhbpipococaa
open Go Go.Ev Go.RowKit Go.Ev.Enc Go.Pl

theorem rank2 {a b i j : Nat} (hb : b ≤ 60) (hi : i ≤ 60) (hj : j ≤ 60) : rankW [(a : Int), (b : Int)] [(i : Int), (j : Int)] 2 = ((i * b + j : Nat) : Int) := by
  have hm : i * b ≤ 60 * 60 := Nat.mul_le_mul hi hb
  simp only [rankW, List.getD_cons_zero, List.getD_cons_succ, Int.zero_mul]
  rw [wrap_in (n := 0) (by omega), Int.zero_add, wrap_in (n := (i : Int)) (by omega), ← Int.natCast_mul, wrap_in (n := ((i * b : Nat) : Int)) (by omega), wrap_in (by omega)]
  omega
theorem mat_sh {x : Tsr} (h : tsrOK x = true) (hl : x.sh.length = 2) : ∃ a b : Nat, x.sh = [(a : Int), (b : Int)] ∧ a ≤ 60 ∧ b ≤ 60 ∧ x.vl.length = a * b ∧ a * b ≤ 60 := by
  obtain ⟨sh, vl⟩ := x
  match sh, hl with
  | [a, b], _ =>
    unfold tsrOK shapeOK at h
    simp only [Bool.and_eq_true, decide_eq_true_eq, List.all_cons, List.all_nil, inExt] at h
    obtain ⟨⟨⟨⟨_, ⟨h1, h2, _⟩⟩, h3⟩, h4⟩, _⟩ := h
    have hp : prodW [a, b] = a * b := by
      have h5 : 0 ≤ a * b := Int.mul_nonneg h1.1 h2.1
      have h6 : a * b ≤ 60 * 60 := Int.mul_le_mul h1.2 h2.2 h2.1 (by omega)
      simp only [prodW, List.foldl_cons, List.foldl_nil, Int.one_mul]
      rw [wrap_in (n := a) (by omega), wrap_in (by omega)]
    rw [hp] at h3 h4
    refine ⟨a.toNat, b.toNat, by simp; omega, by omega, by omega, ?_, ?_⟩
    · have : ((a.toNat * b.toNat : Nat) : Int) = a * b := by rw [Int.natCast_mul]; congr 1 <;> omega
      simp only at h4 ⊢; omega
    · have : ((a.toNat * b.toNat : Nat) : Int) = a * b := by rw [Int.natCast_mul]; congr 1 <;> omega
      omega
theorem srt_lab {X : List Int} (h : ∀ x ∈ X, 0 ≤ x ∧ x < 5) : srt X = labs.filter fun k => X.contains k := by
  rw [asc_labs (srt_asc X) (fun x hx => h x ((srt_mem _ x).1 hx))]
  congr 1
  funext k
  rw [Bool.eq_iff_iff, List.contains_iff_mem, List.contains_iff_mem, srt_mem]
theorem srt_012 : srt ([[0, 1], [1, 2]] : List (List Int)).flatten = [0, 1, 2] := by
  rw [srt_lab (by decide)]; decide
theorem srt_0 : srt ([[0, 0]] : List (List Int)).flatten = [0] := by
  rw [srt_lab (by decide)]; decide
theorem mul_lt_of {i n j m : Nat} (hi : i < n) (hj : j < m) : i * m + j < n * m := by
  have : (i + 1) * m ≤ n * m := Nat.mul_le_mul_right _ hi
  rw [Nat.add_mul, Nat.one_mul] at this; omega
theorem idx_inj {i i' k k' K : Nat} (hk : k < K) (hk' : k' < K) (h : i * K + k = i' * K + k') : i = i' ∧ k = k' := by
  have h1 : (i * K + k) / K = i := by rw [Nat.mul_comm, Nat.mul_add_div (by omega), Nat.div_eq_of_lt hk]; omega
  have h2 : (i' * K + k') / K = i' := by rw [Nat.mul_comm, Nat.mul_add_div (by omega), Nat.div_eq_of_lt hk']; omega
  have : i = i' := by rw [← h1, ← h2, h]
  subst this; omega
/-- the product at an index -/
def mmS (x y : List Int) (m K i k : Nat) : Int := sumN m fun j => x.getD (i * m + j) 0 * y.getD (j * K + k) 0
structure MM (x y t : Tsr) (n m K : Nat) : Prop where
  xs : x.sh = [(n : Int), (m : Int)]
  ys : y.sh = [(m : Int), (K : Int)]
  ts : t.sh = [(n : Int), (K : Int)]
  xl : x.vl.length = n * m
  yl : y.vl.length = m * K
  tl : t.vl.length = n * K
  hn : n ≤ 60
  hm : m ≤ 60
  hK : K ≤ 60
  xo : tsrOK x = true
  yo : tsrOK y = true
  tv : ∀ i k, i < n → k < K → t.vl.getD (i * K + k) 0 = IntKind.i64.wrap (mmS x.vl y.vl m K i k)
theorem mm_form {x y t : Tsr} (h : mmC x y = some t) (ht : tsrOK t = true) : ∃ n m K : Nat, MM x y t n m K := by
  unfold mmC at h
  simp only [Option.bind_eq_some_iff] at h
  obtain ⟨e, hE, hc⟩ := h
  have hx := extOK_of hE
  have r0 := hx.row 0 (by simp)
  have r1 := hx.row 1 (by simp)
  have t0 := hx.tsr 0 (by simp)
  have t1 := hx.tsr 1 (by simp)
  have a0 := hx.ext 0 (by simp) 0 (by simp)
  have a1 := hx.ext 0 (by simp) 1 (by simp)
  have a2 := hx.ext 1 (by simp) 0 (by simp)
  have a3 := hx.ext 1 (by simp) 1 (by simp)
  simp at r0 r1 t0 t1
  obtain ⟨n, m, xs, x1, x2, x3, x4⟩ := mat_sh t0 r0.symm
  obtain ⟨m', K, ys, y1, y2, y3, y4⟩ := mat_sh t1 r1.symm
  simp [xs, ys] at a0 a1 a2 a3
  have hmm : m' = m := by omega
  subst hmm
  obtain ⟨c1, c2, c3⟩ := contr_get hE hc
  have hsh : tkn e [0, 2] = [(n : Int), (K : Int)] := by simp [tkn, a0, a3]
  rw [hsh] at c1 c2 c3
  obtain ⟨n', K', ts, z1, z2, z3, z4⟩ := mat_sh ht (by rw [c1]; rfl)
  rw [c1] at ts
  simp at ts
  obtain ⟨rfl, rfl⟩ : n' = n ∧ K' = K := by omega
  refine ⟨n', m', K', xs, ys, c1, x3, y3, z3, x1, x2, y2, t0, t1, fun i k hi hk => ?_⟩
  rw [c3 _ (by rw [z3]; exact mul_lt_of hi hk), srt_012]
  have e0 : (e.getD (0 : Int).toNat 0).toNat = n' := by simp [a0]
  have e1 : (e.getD (1 : Int).toNat 0).toNat = m' := by simp [a1]
  have e2 : (e.getD (2 : Int).toNat 0).toNat = K' := by simp [a3]
  simp only [sumG, e0, e1, e2]
  have hat : ∀ i j k : Nat, i < n' → k < K' → atR [(n' : Int), (K' : Int)] ((((List.replicate 5 (0 : Int)).set (0 : Int).toNat (i : Int)).set (1 : Int).toNat (j : Int)).set (2 : Int).toNat (k : Int)) [0, 2] = i * K' + k := by
    intro i j k hi hk
    show (rankW [(n' : Int), (K' : Int)] [(i : Int), (k : Int)] 2).toNat = _
    rw [rank2 (by omega) (by omega) (by omega), Int.toNat_natCast]
  rw [sumN_pick (i0 := i) hi (fun i' hi' hne => sumN_zero fun j _ => sumN_zero fun k' hk' => by
    rw [hat i' j k' hi' hk', if_neg (fun h => hne (idx_inj hk' hk h).1)])]
  unfold mmS
  apply sumN_wcongr
  intro j hj
  rw [sumN_pick (i0 := k) hk (fun k' hk' hne => by rw [hat i j k' hi hk', if_neg (fun h => hne (idx_inj hk' hk h).2)])]
  rw [hat i j k hi hk, if_pos rfl]
  show IntKind.i64.wrap (IntKind.i64.wrap (IntKind.i64.wrap (1 * x.vl.getD (rankW x.sh [(i : Int), (j : Int)] x.sh.length).toNat 0) * y.vl.getD (rankW y.sh [(j : Int), (k : Int)] y.sh.length).toNat 0)) = _
  rw [xs, ys]
  show IntKind.i64.wrap (IntKind.i64.wrap (IntKind.i64.wrap (1 * x.vl.getD (rankW [(n' : Int), (m' : Int)] [(i : Int), (j : Int)] 2).toNat 0) * y.vl.getD (rankW [(m' : Int), (K' : Int)] [(j : Int), (k : Int)] 2).toNat 0)) = _
  rw [rank2 (by omega) (by omega) (by omega), rank2 (by omega) (by omega) (by omega), Int.toNat_natCast, Int.toNat_natCast, ww_idem, w_mul, Int.one_mul]

/-- the trace -/
theorem tr_form {x t : Tsr} (h : trC x = some t) : ∃ n : Nat, x.sh = [(n : Int), (n : Int)] ∧ x.vl.length = n * n ∧ n ≤ 60 ∧ tsrOK x = true ∧ t.vl.getD 0 0 = IntKind.i64.wrap (sumN n fun i => x.vl.getD (i * n + i) 0) := by
  have hl := trC_len h
  unfold trC at h
  simp only [Option.bind_eq_some_iff] at h
  obtain ⟨e, hE, hc⟩ := h
  have hx := extOK_of hE
  have r0 := hx.row 0 (by simp)
  have t0 := hx.tsr 0 (by simp)
  have a0 := hx.ext 0 (by simp) 0 (by simp)
  have a1 := hx.ext 0 (by simp) 1 (by simp)
  simp at r0 t0
  obtain ⟨n, m, xs, x1, x2, x3, x4⟩ := mat_sh t0 r0.symm
  simp [xs] at a0 a1
  have hmm : m = n := by omega
  subst hmm
  obtain ⟨c1, c2, c3⟩ := contr_get hE hc
  refine ⟨m, xs, x3, x2, t0, ?_⟩
  rw [c3 0 (by omega), srt_0]
  have e0 : (e.getD (0 : Int).toNat 0).toNat = m := by simp [a0]
  simp only [sumG, e0]
  apply sumN_wcongr
  intro i hi
  rw [if_pos (by rfl)]
  show IntKind.i64.wrap (IntKind.i64.wrap (1 * x.vl.getD (rankW x.sh [(i : Int), (i : Int)] x.sh.length).toNat 0)) = _
  rw [xs]
  show IntKind.i64.wrap (IntKind.i64.wrap (1 * x.vl.getD (rankW [(m : Int), (m : Int)] [(i : Int), (i : Int)] 2).toNat 0)) = _
  rw [rank2 (by omega) (by omega) (by omega), Int.toNat_natCast, ww_idem, Int.one_mul]
end Go.Proofs.Ytfjhhbpipococaa
