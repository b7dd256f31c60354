/- Contracts of functions that the laws of this seat call. -/
import Derived.Test.YtfjhhbpipococaaFv
set_option linter.all false
namespace Go.Proofs.Ytfjhhbpipococaa
open Go Go.Ev Go.RowKit Go.Ev.Enc Go.Pl

/-! ### sums of numbers of 64 bits -/
theorem cg_iff {a b : Int} : IntKind.i64.wrap a = IntKind.i64.wrap b ↔ ∃ k : Int, a = b + k * 18446744073709551616 := by
  rw [IntKind.wrap_i64, IntKind.wrap_i64]
  constructor
  · intro h
    exact ⟨(a - b) / 18446744073709551616, by omega⟩
  · rintro ⟨k, rfl⟩
    omega
theorem w_add (a b : Int) : IntKind.i64.wrap (IntKind.i64.wrap a + b) = IntKind.i64.wrap (a + b) := by
  rw [IntKind.wrap_i64, IntKind.wrap_i64, IntKind.wrap_i64]; omega
theorem w_addr (a b : Int) : IntKind.i64.wrap (a + IntKind.i64.wrap b) = IntKind.i64.wrap (a + b) := by
  rw [Int.add_comm, w_add, Int.add_comm]
theorem w_mul (a b : Int) : IntKind.i64.wrap (IntKind.i64.wrap a * b) = IntKind.i64.wrap (a * b) := by
  obtain ⟨k, hk⟩ := cg_iff.1 (ww_idem a)
  rw [cg_iff]
  exact ⟨k * b, by rw [hk, Int.add_mul, Int.mul_right_comm]⟩
theorem w_mulr (a b : Int) : IntKind.i64.wrap (a * IntKind.i64.wrap b) = IntKind.i64.wrap (a * b) := by
  rw [Int.mul_comm, w_mul, Int.mul_comm]
theorem w_congr_add {a b c d : Int} (h1 : IntKind.i64.wrap a = IntKind.i64.wrap b) (h2 : IntKind.i64.wrap c = IntKind.i64.wrap d) : IntKind.i64.wrap (a + c) = IntKind.i64.wrap (b + d) := by
  rw [← w_add, ← w_addr, h1, h2, w_add, w_addr]
def sumN : Nat → (Nat → Int) → Int
  | 0, _ => 0
  | n + 1, f => sumN n f + f n
theorem sumN_congr {f g : Nat → Int} : ∀ {n : Nat}, (∀ i, i < n → f i = g i) → sumN n f = sumN n g
  | 0, _ => rfl
  | n + 1, h => by rw [sumN, sumN, sumN_congr (fun i hi => h i (by omega)), h n (by omega)]
theorem sumN_wcongr {f g : Nat → Int} : ∀ {n : Nat}, (∀ i, i < n → IntKind.i64.wrap (f i) = IntKind.i64.wrap (g i)) → IntKind.i64.wrap (sumN n f) = IntKind.i64.wrap (sumN n g)
  | 0, _ => rfl
  | n + 1, h => by rw [sumN, sumN]; exact w_congr_add (sumN_wcongr fun i hi => h i (by omega)) (h n (by omega))
theorem sumN_zero : ∀ {n : Nat} {f : Nat → Int}, (∀ i, i < n → f i = 0) → sumN n f = 0
  | 0, _, _ => rfl
  | n + 1, f, h => by rw [sumN, sumN_zero (fun i hi => h i (by omega)), h n (by omega)]; rfl
theorem sumN_add (f g : Nat → Int) : ∀ n, sumN n (fun i => f i + g i) = sumN n f + sumN n g
  | 0 => rfl
  | n + 1 => by rw [sumN, sumN, sumN, sumN_add f g n]; omega
theorem sumN_mul (c : Int) (f : Nat → Int) : ∀ n, sumN n (fun i => c * f i) = c * sumN n f
  | 0 => by simp [sumN]
  | n + 1 => by rw [sumN, sumN, sumN_mul c f n, Int.mul_add]
theorem sumN_mulr (c : Int) (f : Nat → Int) (n : Nat) : sumN n (fun i => f i * c) = sumN n f * c := by
  rw [Int.mul_comm, ← sumN_mul]
  exact sumN_congr fun i _ => Int.mul_comm _ _
theorem sumN_swap (f : Nat → Nat → Int) (m : Nat) : ∀ n, sumN n (fun i => sumN m (fun j => f i j)) = sumN m (fun j => sumN n (fun i => f i j))
  | 0 => by simp only [sumN]; exact (sumN_zero fun _ _ => rfl).symm
  | n + 1 => by
    simp only [sumN]
    rw [sumN_swap f m n, sumN_add]
theorem sumN_pick {f : Nat → Int} {i0 : Nat} : ∀ {n : Nat}, i0 < n → (∀ i, i < n → i ≠ i0 → f i = 0) → sumN n f = f i0
  | 0, h, _ => by omega
  | n + 1, h, hz => by
    rw [sumN]
    by_cases hn : i0 = n
    · subst hn
      rw [sumN_zero (fun i hi => hz i (by omega) (by omega))]; omega
    · rw [sumN_pick (by omega) (fun i hi hne => hz i (by omega) hne), hz n (by omega) (fun h => hn h.symm)]; omega

/-! ### what a contraction is at an index -/
def atR (sh al out : List Int) : Nat := (rankW sh (tkn al out) sh.length).toNat
def sumG (l : List Tsr) (b : List (List Int)) (out sh e : List Int) (r : Nat) : List Int → List Int → Int
  | [], nums => if atR sh nums out = r then termS l b nums l.length else 0
  | u :: us, nums => sumN (e.getD u.toNat 0).toNat fun x => sumG l b out sh e r us (nums.set u.toNat (x : Int))
theorem addAt_get {v : List Int} {k : Int} {x : Int} {r : Nat} (hr : r < v.length) : (addAt v k x).getD r 0 = if k.toNat = r then IntKind.i64.wrap (v.getD r 0 + x) else v.getD r 0 := by
  unfold addAt
  rw [getD_set]
  by_cases h : k.toNat = r
  · subst h; simp [hr]
  · simp [h]
theorem sumV_get (l : List Tsr) (b : List (List Int)) (out sh e : List Int) : ∀ (us nums v : List Int) (T : Nat → Int), (∀ r, r < v.length → v.getD r 0 = IntKind.i64.wrap (T r)) →
    ∀ r, r < v.length → (sumV l b out sh e us nums v).getD r 0 = IntKind.i64.wrap (T r + sumG l b out sh e r us nums)
  | [], nums, v, T, hT, r, hr => by
    rw [sumV, stepS, addAt_get hr, sumG, atR]
    split
    · rw [hT r hr, w_add]
    · rw [hT r hr, Int.add_zero]
  | u :: us, nums, v, T, hT, r, hr => by
    rw [sumV, sumG]
    have key : ∀ (n : Nat) (r : Nat), r < v.length → ((List.range n).foldl (fun v (x : Nat) => sumV l b out sh e us (nums.set u.toNat x) v) v).getD r 0 = IntKind.i64.wrap (T r + sumN n fun x => sumG l b out sh e r us (nums.set u.toNat (x : Int))) := by
      intro n
      induction n with
      | zero => intro r hr; simp only [List.range_zero, List.foldl_nil, sumN, Int.add_zero]; exact hT r hr
      | succ n ih =>
        intro r hr
        have hlen : ∀ (q : List Nat) (v : List Int), (q.foldl (fun v (x : Nat) => sumV l b out sh e us (nums.set u.toNat x) v) v).length = v.length := by
          intro q
          induction q with
          | nil => intro v; rfl
          | cons a q ihq => intro v; rw [List.foldl_cons, ihq, sumV_len]
        rw [List.range_succ, List.foldl_append, List.foldl_cons, List.foldl_nil]
        rw [sumV_get l b out sh e us _ _ (fun r => T r + sumN n fun x => sumG l b out sh e r us (nums.set u.toNat (x : Int))) (fun r hr => ih r (by rw [hlen] at hr; exact hr)) r (by rw [hlen]; exact hr), sumN, Int.add_assoc]
    exact key _ r hr
theorem contr_get {l : List Tsr} {b : List (List Int)} {out e : List Int} {t : Tsr} (hE : extF l b = some e) (ht : contrF l b out e = some t) :
    t.sh = tkn e out ∧ t.vl.length = (prodW (tkn e out)).toNat ∧ ∀ r, r < t.vl.length → t.vl.getD r 0 = IntKind.i64.wrap (sumG l b out (tkn e out) e r (srt b.flatten) (List.replicate 5 0)) := by
  unfold contrF at ht
  split at ht
  · have := Option.some.inj ht
    subst this
    refine ⟨rfl, contrV_len _ _ _ _ _ _, fun r hr => ?_⟩
    simp only at hr ⊢
    rw [contrV_len] at hr
    have hs := sum_contr (out := out) (sh := tkn e out) hE
    rw [← hs, sumV_get l b out (tkn e out) e (srt b.flatten) (List.replicate 5 0) (List.replicate (prodW (tkn e out)).toNat 0) (fun _ => 0) (fun r _ => by rw [rep_getD, wrap_in (by omega)]) r (by simpa using hr), Int.zero_add]
  · simp at ht
end Go.Proofs.Ytfjhhbpipococaa
