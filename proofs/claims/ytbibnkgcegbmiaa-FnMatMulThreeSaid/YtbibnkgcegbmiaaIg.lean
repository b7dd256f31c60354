/- Contracts of functions that the laws of this seat call. -/
import Derived.Test.YtbibnkgcegbmiaaIf
set_option linter.all false
namespace Go.Proofs.Ytbibnkgcegbmiaa
open Go Go.Ev Go.RowKit Go.Ev.Enc Go.Pl

/-! ### three matrices -/
theorem srt_0123 : srt ([[0, 1], [1, 2], [2, 3]] : List (List Int)).flatten = [0, 1, 2, 3] := by
  rw [srt_lab (by decide)]; decide
def m3C (x y z : Tsr) : Option Tsr := (extF [x, y, z] [[0, 1], [1, 2], [2, 3]]).bind (contrF [x, y, z] [[0, 1], [1, 2], [2, 3]] [0, 3])
theorem ext_m3 {x y z : Tsr} {n m K l : Nat} (h1 : x.sh = [(n : Int), (m : Int)]) (h2 : y.sh = [(m : Int), (K : Int)]) (h3 : z.sh = [(K : Int), (l : Int)]) (hx : tsrOK x = true) (hy : tsrOK y = true) (hz : tsrOK z = true) :
    extF [x, y, z] [[0, 1], [1, 2], [2, 3]] = some [(n : Int), (m : Int), (K : Int), (l : Int), -1] := by
  have l0 : labOK [0, 1] = true := by decide
  have l1 : labOK [1, 2] = true := by decide
  have l2 : labOK [2, 3] = true := by decide
  simp [extF, extAll, extIn, h1, h2, h3, hx, hy, hz, l0, l1, l2]
theorem m3_vals {x y z t : Tsr} {n m K l : Nat} (h : m3C x y z = some t) (xs : x.sh = [(n : Int), (m : Int)]) (ys : y.sh = [(m : Int), (K : Int)]) (zs : z.sh = [(K : Int), (l : Int)]) (xo : tsrOK x = true) (yo : tsrOK y = true) (zo : tsrOK z = true) (hn : n ≤ 60) (hm : m ≤ 60) (hK : K ≤ 60) (hl : l ≤ 60) :
    t.sh = [(n : Int), (l : Int)] ∧ t.vl.length = n * l ∧ ∀ i q, i < n → q < l → t.vl.getD (i * l + q) 0 = IntKind.i64.wrap (sumN m fun j => sumN K fun k => x.vl.getD (i * m + j) 0 * y.vl.getD (j * K + k) 0 * z.vl.getD (k * l + q) 0) := by
  unfold m3C at h
  rw [ext_m3 xs ys zs xo yo zo, Option.bind_some] at h
  obtain ⟨c1, c2, c3⟩ := contr_get (ext_m3 xs ys zs xo yo zo) h
  have hsh : tkn [(n : Int), (m : Int), (K : Int), (l : Int), -1] [0, 3] = [(n : Int), (l : Int)] := rfl
  rw [hsh] at c1 c2 c3
  rw [prodW_two hn hl, Int.toNat_natCast] at c2
  refine ⟨c1, c2, fun i q hi hq => ?_⟩
  rw [c3 _ (by rw [c2]; exact mul_lt_of hi hq), srt_0123]
  have e0 : (([(n : Int), (m : Int), (K : Int), (l : Int), -1] : List Int).getD (0 : Int).toNat 0).toNat = n := by simp
  have e1 : (([(n : Int), (m : Int), (K : Int), (l : Int), -1] : List Int).getD (1 : Int).toNat 0).toNat = m := by simp
  have e2 : (([(n : Int), (m : Int), (K : Int), (l : Int), -1] : List Int).getD (2 : Int).toNat 0).toNat = K := by simp
  have e3 : (([(n : Int), (m : Int), (K : Int), (l : Int), -1] : List Int).getD (3 : Int).toNat 0).toNat = l := by simp
  simp only [sumG, e0, e1, e2, e3]
  have hat : ∀ i j k q : Nat, i < n → q < l → atR [(n : Int), (l : Int)] (((((List.replicate 5 (0 : Int)).set (0 : Int).toNat (i : Int)).set (1 : Int).toNat (j : Int)).set (2 : Int).toNat (k : Int)).set (3 : Int).toNat (q : Int)) [0, 3] = i * l + q := by
    intro i j k q hi hq
    show (rankW [(n : Int), (l : Int)] [(i : Int), (q : Int)] 2).toNat = _
    rw [rank2 (by omega) (by omega) (by omega), Int.toNat_natCast]
  rw [sumN_pick (i0 := i) hi (fun i' hi' hne => sumN_zero fun j _ => sumN_zero fun k _ => sumN_zero fun q' hq' => by
    rw [hat i' j k q' hi' hq', if_neg (fun h => hne (idx_inj hq' hq h).1)])]
  apply sumN_wcongr
  intro j hj
  apply sumN_wcongr
  intro k hk
  rw [sumN_pick (i0 := q) hq (fun q' hq' hne => by rw [hat i j k q' hi hq', if_neg (fun h => hne (idx_inj hq' hq h).2)])]
  rw [hat i j k q hi hq, if_pos rfl]
  show IntKind.i64.wrap (IntKind.i64.wrap (IntKind.i64.wrap (IntKind.i64.wrap (1 * x.vl.getD (rankW x.sh [(i : Int), (j : Int)] x.sh.length).toNat 0) * y.vl.getD (rankW y.sh [(j : Int), (k : Int)] y.sh.length).toNat 0) * z.vl.getD (rankW z.sh [(k : Int), (q : Int)] z.sh.length).toNat 0)) = _
  rw [xs, ys, zs]
  show IntKind.i64.wrap (IntKind.i64.wrap (IntKind.i64.wrap (IntKind.i64.wrap (1 * x.vl.getD (rankW [(n : Int), (m : Int)] [(i : Int), (j : Int)] 2).toNat 0) * y.vl.getD (rankW [(m : Int), (K : Int)] [(j : Int), (k : Int)] 2).toNat 0) * z.vl.getD (rankW [(K : Int), (l : Int)] [(k : Int), (q : Int)] 2).toNat 0)) = _
  rw [rank2 (by omega) (by omega) (by omega), rank2 (by omega) (by omega) (by omega), rank2 (by omega) (by omega) (by omega), Int.toNat_natCast, Int.toNat_natCast, Int.toNat_natCast, ww_idem, w_mul, Int.one_mul, Int.mul_assoc, w_mul, ← Int.mul_assoc]
theorem mm_assoc {x y z o a p q : Tsr} (h1 : mmR x y = (o, true)) (h2 : mmR o z = (a, true)) (h3 : mmR y z = (p, true)) (h4 : mmR x p = (q, true)) : a = q := by
  obtain ⟨a1, b1⟩ := mmR_ok h1
  obtain ⟨a2, b2⟩ := mmR_ok h2
  obtain ⟨a3, b3⟩ := mmR_ok h3
  obtain ⟨a4, b4⟩ := mmR_ok h4
  obtain ⟨n, m, K, M1⟩ := mm_form a1 b1
  obtain ⟨n2, K2, l, M2⟩ := mm_form a2 b2
  obtain ⟨m3, K3, l3, M3⟩ := mm_form a3 b3
  obtain ⟨n4, m4, l4, M4⟩ := mm_form a4 b4
  have e1 := M1.ts.symm.trans M2.xs
  have e2 := M1.ys.symm.trans M3.xs
  have e3 := M2.ys.symm.trans M3.ys
  have e4 := M1.xs.symm.trans M4.xs
  have e5 := M3.ts.symm.trans M4.ys
  simp at e1 e2 e3 e4 e5
  have f1 : n2 = n := by omega
  have f2 : K2 = K := by omega
  have f3 : m3 = m := by omega
  have f4 : K3 = K := by omega
  have f5 : l3 = l := by omega
  have f6 : n4 = n := by omega
  have f7 : m4 = m := by omega
  have f8 : l4 = l := by omega
  subst f1 f2 f3 f4 f5 f6 f7 f8
  refine mm_ext M2.ts M4.ts M2.tl M4.tl fun i k hi hk => ?_
  rw [M2.tv i k hi hk, M4.tv i k hi hk]
  unfold mmS
  have g1 : IntKind.i64.wrap (sumN K3 fun j => o.vl.getD (i * K3 + j) 0 * z.vl.getD (j * l4 + k) 0) = IntKind.i64.wrap (sumN K3 fun c => sumN m4 fun j => x.vl.getD (i * m4 + j) 0 * y.vl.getD (j * K3 + c) 0 * z.vl.getD (c * l4 + k) 0) := sumN_wcongr fun c hc => by
    rw [M1.tv i c hi hc, w_mul, sumN_mulr]; rfl
  have g2 : IntKind.i64.wrap (sumN m4 fun j => x.vl.getD (i * m4 + j) 0 * p.vl.getD (j * l4 + k) 0) = IntKind.i64.wrap (sumN m4 fun j => sumN K3 fun c => x.vl.getD (i * m4 + j) 0 * y.vl.getD (j * K3 + c) 0 * z.vl.getD (c * l4 + k) 0) := sumN_wcongr fun j hj => by
    rw [M3.tv j k hj hk, w_mulr]
    unfold mmS
    rw [← sumN_mul]
    congr 1
    exact sumN_congr fun c _ => (Int.mul_assoc _ _ _).symm
  rw [g1, g2, sumN_swap]
theorem m3_law {x y z o a t : Tsr} (h1 : mmR x y = (o, true)) (h2 : mmR o z = (a, true)) (h3 : tsrT (m3C x y z) = (t, true)) : t = a := by
  obtain ⟨a1, b1⟩ := mmR_ok h1
  obtain ⟨a2, b2⟩ := mmR_ok h2
  obtain ⟨n, m, K, M1⟩ := mm_form a1 b1
  obtain ⟨n2, K2, l, M2⟩ := mm_form a2 b2
  have e1 := M1.ts.symm.trans M2.xs
  simp at e1
  have f1 : n2 = n := by omega
  have f2 : K2 = K := by omega
  subst f1 f2
  have hc : m3C x y z = some t := by
    unfold tsrT at h3
    split at h3
    · simp at h3
    · rename_i t' he
      split at h3
      · simp only [Prod.mk.injEq, and_true] at h3
        subst h3; exact he
      · simp at h3
  obtain ⟨v1, v2, v3⟩ := m3_vals hc M1.xs M1.ys M2.ys M1.xo M1.yo M2.yo M1.hn M1.hm M1.hK M2.hK
  refine mm_ext v1 M2.ts v2 M2.tl fun i k hi hk => ?_
  rw [v3 i k hi hk, M2.tv i k hi hk]
  unfold mmS
  have g1 : IntKind.i64.wrap (sumN K2 fun j => o.vl.getD (i * K2 + j) 0 * z.vl.getD (j * l + k) 0) = IntKind.i64.wrap (sumN K2 fun c => sumN m fun j => x.vl.getD (i * m + j) 0 * y.vl.getD (j * K2 + c) 0 * z.vl.getD (c * l + k) 0) := sumN_wcongr fun c hc => by
    rw [M1.tv i c hi hc, w_mul, sumN_mulr]; rfl
  rw [g1, sumN_swap]
end Go.Proofs.Ytbibnkgcegbmiaa
