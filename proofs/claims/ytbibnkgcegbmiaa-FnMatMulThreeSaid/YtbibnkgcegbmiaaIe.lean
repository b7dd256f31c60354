/- Contracts of functions that the laws of this seat call. -/
import Derived.Test.YtbibnkgcegbmiaaId
set_option linter.all false
namespace Go.Proofs.Ytbibnkgcegbmiaa
open Go Go.Ev Go.RowKit Go.Ev.Enc Go.Pl

theorem ext_mm {x y : Tsr} {n m K : Nat} (h1 : x.sh = [(n : Int), (m : Int)]) (h2 : y.sh = [(m : Int), (K : Int)]) (hx : tsrOK x = true) (hy : tsrOK y = true) : extF [x, y] [[0, 1], [1, 2]] = some [(n : Int), (m : Int), (K : Int), -1, -1] := by
  have l0 : labOK [0, 1] = true := by decide
  have l1 : labOK [1, 2] = true := by decide
  simp [extF, extAll, extIn, h1, h2, hx, hy, l0, l1]
theorem prod5 {n m K : Nat} (hn : n ≤ 60) (hm : m ≤ 60) (hK : K ≤ 60) : prodW ([(n : Int), (m : Int), (K : Int), -1, -1].map pos1) = ((n * m * K : Nat) : Int) := by
  have h1 : n * m ≤ 60 * 60 := Nat.mul_le_mul hn hm
  have h2 : n * m * K ≤ 60 * 60 * 60 := Nat.mul_le_mul h1 hK
  have e1 : pos1 (n : Int) = n := by unfold pos1; rw [if_neg (by omega)]
  have e2 : pos1 (m : Int) = m := by unfold pos1; rw [if_neg (by omega)]
  have e3 : pos1 (K : Int) = K := by unfold pos1; rw [if_neg (by omega)]
  have e4 : pos1 (-1) = 1 := by decide
  simp only [List.map_cons, List.map_nil, e1, e2, e3, e4, prodW, List.foldl_cons, List.foldl_nil, Int.one_mul, Int.mul_one]
  rw [wrap_in (n := (n : Int)) (by omega), ← Int.natCast_mul, wrap_in (n := ((n * m : Nat) : Int)) (by omega), ← Int.natCast_mul, wrap_in (n := ((n * m * K : Nat) : Int)) (by omega), wrap_in (n := ((n * m * K : Nat) : Int)) (by omega), wrap_in (by omega)]
theorem good_mm {n m K : Nat} (hn : n ≤ 60) (hm : m ≤ 60) (hK : K ≤ 60) : goodF [0, 2] [(n : Int), (m : Int), (K : Int), -1, -1] = decide (n * K ≤ 60) := by
  have h1 : inR (n : Int) 0 60 = true := by simp [inR]; omega
  have h2 : inR (K : Int) 0 60 = true := by simp [inR]; omega
  have h3 : labOK [0, 2] = true := by decide
  have h4 : diffF [0, 2] = true := by decide
  have h5 : tkn [(n : Int), (m : Int), (K : Int), -1, -1] [0, 2] = [(n : Int), (K : Int)] := rfl
  unfold goodF
  rw [h3, h4, h5, shape_two hn hK]
  simp [h1, h2]
theorem mmC_some {x y : Tsr} {n m K : Nat} (h1 : x.sh = [(n : Int), (m : Int)]) (h2 : y.sh = [(m : Int), (K : Int)]) (hx : tsrOK x = true) (hy : tsrOK y = true) (hn : n ≤ 60) (hm : m ≤ 60) (hK : K ≤ 60) :
    (mmC x y).isSome = decide (n * K ≤ 60 ∧ n * m * K ≤ 4000) := by
  unfold mmC
  rw [ext_mm h1 h2 hx hy]
  simp only [Option.bind_some, contrF, good_mm hn hm hK, prod5 hn hm hK]
  split
  · rename_i h
    simp only [decide_eq_true_eq] at h
    simp only [Option.isSome_some]
    rw [eq_comm, decide_eq_true_eq]; omega
  · rename_i h
    simp only [decide_eq_true_eq] at h
    simp only [Option.isSome_none]
    rw [eq_comm, decide_eq_false_iff_not]; omega
theorem mm_ext {t t' : Tsr} {n K : Nat} (h1 : t.sh = [(n : Int), (K : Int)]) (h2 : t'.sh = [(n : Int), (K : Int)]) (l1 : t.vl.length = n * K) (l2 : t'.vl.length = n * K) (h : ∀ i k, i < n → k < K → t.vl.getD (i * K + k) 0 = t'.vl.getD (i * K + k) 0) : t = t' := by
  obtain ⟨s, v⟩ := t
  obtain ⟨s', v'⟩ := t'
  simp only at h1 h2 l1 l2 h
  subst h1 h2
  congr 1
  refine ints_ext (by omega) fun r hr => ?_
  rw [l1] at hr
  have hK : 0 < K := by rcases Nat.eq_zero_or_pos K with h | h; subst h; simp at hr; exact h
  have := h (r / K) (r % K) ((Nat.div_lt_iff_lt_mul hK).2 hr) (Nat.mod_lt _ hK)
  rwa [Nat.mul_comm, Nat.div_add_mod] at this
theorem mat_bd {x : Tsr} {a b : Nat} (h : tsrOK x = true) (hs : x.sh = [(a : Int), (b : Int)]) : a * b ≤ 60 ∧ a ≤ 60 ∧ b ≤ 60 ∧ x.vl.length = a * b := by
  obtain ⟨a', b', e, h1, h2, h3, h4⟩ := mat_sh h (by rw [hs]; rfl)
  rw [hs] at e
  simp at e
  have e1 : a = a' := by omega
  have e2 : b = b' := by omega
  subst e1 e2
  exact ⟨h4, h1, h2, h3⟩
theorem mm_vals {x y t : Tsr} {n m K : Nat} (h : mmC x y = some t) (xs : x.sh = [(n : Int), (m : Int)]) (ys : y.sh = [(m : Int), (K : Int)]) (xo : tsrOK x = true) (yo : tsrOK y = true) (hn : n ≤ 60) (hm : m ≤ 60) (hK : K ≤ 60) :
    t.sh = [(n : Int), (K : Int)] ∧ t.vl.length = n * K ∧ ∀ i k, i < n → k < K → t.vl.getD (i * K + k) 0 = IntKind.i64.wrap (mmS x.vl y.vl m K i k) := by
  unfold mmC at h
  rw [ext_mm xs ys xo yo, Option.bind_some] at h
  obtain ⟨c1, c2, c3⟩ := contr_get (ext_mm xs ys xo yo) h
  have hsh : tkn [(n : Int), (m : Int), (K : Int), -1, -1] [0, 2] = [(n : Int), (K : Int)] := rfl
  rw [hsh] at c1 c2 c3
  rw [prodW_two hn hK, Int.toNat_natCast] at c2
  refine ⟨c1, c2, fun i k hi hk => ?_⟩
  rw [c3 _ (by rw [c2]; exact mul_lt_of hi hk), srt_012]
  have e0 : (([(n : Int), (m : Int), (K : Int), -1, -1] : List Int).getD (0 : Int).toNat 0).toNat = n := by simp
  have e1 : (([(n : Int), (m : Int), (K : Int), -1, -1] : List Int).getD (1 : Int).toNat 0).toNat = m := by simp
  have e2 : (([(n : Int), (m : Int), (K : Int), -1, -1] : List Int).getD (2 : Int).toNat 0).toNat = K := by simp
  simp only [sumG, e0, e1, e2]
  have hat : ∀ i j k : Nat, i < n → k < K → atR [(n : Int), (K : Int)] ((((List.replicate 5 (0 : Int)).set (0 : Int).toNat (i : Int)).set (1 : Int).toNat (j : Int)).set (2 : Int).toNat (k : Int)) [0, 2] = i * K + k := by
    intro i j k hi hk
    show (rankW [(n : Int), (K : Int)] [(i : Int), (k : Int)] 2).toNat = _
    rw [rank2 (by omega) (by omega) (by omega), Int.toNat_natCast]
  rw [sumN_pick (i0 := i) hi (fun i' hi' hne => sumN_zero fun j _ => sumN_zero fun k' hk' => by
    rw [hat i' j k' hi' hk', if_neg (fun h => hne (idx_inj hk' hk h).1)])]
  unfold mmS
  apply sumN_wcongr
  intro j hj
  rw [sumN_pick (i0 := k) hk (fun k' hk' hne => by rw [hat i j k' hi hk', if_neg (fun h => hne (idx_inj hk' hk h).2)])]
  rw [hat i j k hi hk, if_pos rfl]
  show IntKind.i64.wrap (IntKind.i64.wrap (IntKind.i64.wrap (1 * x.vl.getD (rankW x.sh [(i : Int), (j : Int)] x.sh.length).toNat 0) * y.vl.getD (rankW y.sh [(j : Int), (k : Int)] y.sh.length).toNat 0)) = _
  rw [xs, ys]
  show IntKind.i64.wrap (IntKind.i64.wrap (IntKind.i64.wrap (1 * x.vl.getD (rankW [(n : Int), (m : Int)] [(i : Int), (j : Int)] 2).toNat 0) * y.vl.getD (rankW [(m : Int), (K : Int)] [(j : Int), (k : Int)] 2).toNat 0)) = _
  rw [rank2 (by omega) (by omega) (by omega), rank2 (by omega) (by omega) (by omega), Int.toNat_natCast, Int.toNat_natCast, ww_idem, w_mul, Int.one_mul]
theorem mm_turn {x y t : Tsr} (h : mmC x y = some t) (ht : tsrOK t = true) : mmC (turnX y) (turnX x) = some (turnX t) ∧ tsrOK (turnX t) = true ∧ tsrOK x = true ∧ x.sh.length = 2 ∧ tsrOK y = true ∧ y.sh.length = 2 ∧ t.sh.length = 2 := by
  obtain ⟨n, m, K, M⟩ := mm_form h ht
  have bx : n * m ≤ 60 := (mat_bd M.xo M.xs).1
  have byy : m * K ≤ 60 := (mat_bd M.yo M.ys).1
  have bt : n * K ≤ 60 := (mat_bd ht M.ts).1
  have ox := turn_ok M.xs M.xo M.hn M.hm M.xl bx
  have oy := turn_ok M.ys M.yo M.hm M.hK M.yl byy
  have ot := turn_ok M.ts ht M.hn M.hK M.tl bt
  have sx : (turnX x).sh = [(m : Int), (n : Int)] := by rw [turnX_eq M.xs]
  have sy : (turnX y).sh = [(K : Int), (m : Int)] := by rw [turnX_eq M.ys]
  have st : (turnX t).sh = [(K : Int), (n : Int)] := by rw [turnX_eq M.ts]
  have hs1 := mmC_some M.xs M.ys M.xo M.yo M.hn M.hm M.hK
  rw [h, Option.isSome_some, eq_comm, decide_eq_true_eq] at hs1
  have hs2 := mmC_some sy sx oy ox M.hK M.hm M.hn
  rw [decide_eq_true (by
    refine ⟨by rw [Nat.mul_comm]; exact hs1.1, ?_⟩
    have : K * m * n = n * m * K := by rw [Nat.mul_comm (K * m) n, Nat.mul_comm K m, Nat.mul_assoc]
    omega)] at hs2
  obtain ⟨t', ht'⟩ := Option.isSome_iff_exists.1 hs2
  obtain ⟨e, hE, hc⟩ : ∃ e, extF [turnX y, turnX x] [[0, 1], [1, 2]] = some e ∧ contrF [turnX y, turnX x] [[0, 1], [1, 2]] [0, 2] e = some t' := by
    unfold mmC at ht'
    simpa [Option.bind_eq_some_iff] using ht'
  have key : t' = turnX t := by
    obtain ⟨c1, c2, c3⟩ := contr_get hE hc
    -- the result is a matrix of that shape; its values, too
    obtain ⟨v1, v2, v3⟩ := mm_vals ht' sy sx oy ox M.hK M.hm M.hn
    refine mm_ext v1 st v2 (by rw [turnX_eq M.ts, turnV_len]) fun k i hk hi => ?_
    rw [v3 k i hk hi, turnX_eq M.ts, turnV_get hk hi, M.tv i k hi hk]
    congr 1
    unfold mmS
    apply sumN_congr
    intro j hj
    rw [turnX_eq M.ys, turnX_eq M.xs, turnV_get hk hj, turnV_get hj hi, Int.mul_comm]
  subst key
  exact ⟨ht', ot, M.xo, by rw [M.xs]; rfl, M.yo, by rw [M.ys]; rfl, by rw [M.ts]; rfl⟩
end Go.Proofs.Ytbibnkgcegbmiaa
