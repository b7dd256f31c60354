/- Contracts of functions that the laws of this seat call. -/
import Derived.Test.YtkmnepmnjpdpkaaDoorX5
set_option linter.all false
namespace Go.Proofs.YtkmnepmnjpdpkaaDoor
open Go Go.Ev Go.RowKit Go.Ev.Enc Go.Pl

section
variable {α β : Type} (m : Int → α → α) (n : Int → α → Int) (m2 : Int → β → β) (n2 : Int → β → Int)
def mkL : Int → List α → List α
  | _, [] => []
  | k, t :: l => m k t :: mkL (n k t) l
def nxL : Int → List α → Int
  | k, [] => k
  | k, t :: l => nxL (n k t) l
def mkdL : Int → List α → Prop
  | _, [] => True
  | k, t :: l => m k t = t ∧ mkdL (n k t) l
theorem mkL_len : ∀ (k : Int) (l : List α), (mkL m n k l).length = l.length
  | _, [] => rfl
  | k, t :: l => by rw [mkL, List.length_cons, List.length_cons, mkL_len]
theorem nxL_snoc (t : α) : ∀ (k : Int) (l : List α), nxL n k (l ++ [t]) = n (nxL n k l) t
  | _, [] => rfl
  | k, a :: l => by rw [List.cons_append, nxL, nxL, nxL_snoc t]
theorem mkL_snoc (t : α) : ∀ (k : Int) (l : List α), mkL m n k (l ++ [t]) = mkL m n k l ++ [m (nxL n k l) t]
  | _, [] => rfl
  | k, a :: l => by rw [List.cons_append, mkL, mkL, mkL_snoc t, nxL]; rfl
variable {m n m2 n2}
theorem mkL_map {f : α → β} (hf : ∀ k t, f (m k t) = m2 k (f t)) (hn : ∀ k t, n k t = n2 k (f t)) : ∀ (k : Int) (l : List α), (mkL m n k l).map f = mkL m2 n2 k (l.map f)
  | _, [] => rfl
  | k, t :: l => by rw [mkL, List.map_cons, List.map_cons, mkL, mkL_map hf hn, hf, hn]
theorem nxL_map {f : α → β} (hn : ∀ k t, n k t = n2 k (f t)) : ∀ (k : Int) (l : List α), nxL n k l = nxL n2 k (l.map f)
  | _, [] => rfl
  | k, t :: l => by rw [nxL, List.map_cons, nxL, nxL_map hn, hn]
theorem mkL_keep {f : α → β} (hf : ∀ k t, f (m k t) = f t) : ∀ (k : Int) (l : List α), (mkL m n k l).map f = l.map f
  | _, [] => rfl
  | k, t :: l => by rw [mkL, List.map_cons, List.map_cons, mkL_keep hf, hf]
theorem nxL_le {c : Nat} : ∀ {k : Int} {l : List α}, (∀ t ∈ l, ∀ k, k ≤ n k t ∧ n k t ≤ k + c) → k ≤ nxL n k l ∧ nxL n k l ≤ k + c * l.length
  | k, [], _ => by simp [nxL]
  | k, t :: l, h => by
    have h1 := h t (by simp) k
    have h2 := nxL_le (k := n k t) (l := l) fun b hb => h b (by simp [hb])
    have h3 : (c : Int) * ((t :: l).length : Int) = c * (l.length : Int) + c := by rw [List.length_cons]; push_cast; rw [Int.mul_add, Int.mul_one]
    rw [nxL]
    generalize (c : Int) * (l.length : Int) = z at *
    rw [h3]
    omega
theorem nxL_mk (h : ∀ k t, n k (m k t) = n k t) : ∀ (k : Int) (l : List α), nxL n k (mkL m n k l) = nxL n k l
  | _, [] => rfl
  | k, t :: l => by rw [mkL, nxL, nxL, h, nxL_mk h]
theorem mkdL_mk (h : ∀ k t, n k (m k t) = n k t) (h2 : ∀ k t, m k (m k t) = m k t) : ∀ (k : Int) (l : List α), mkdL m n k (mkL m n k l)
  | _, [] => trivial
  | k, t :: l => ⟨h2 k t, by rw [h]; exact mkdL_mk h h2 _ l⟩
theorem mkdL_at {d : α} : ∀ {k : Int} {l : List α} {i : Nat}, mkdL m n k l → i < l.length → m (nxL n k (l.take i)) (l.getD i d) = l.getD i d
  | k, a :: l, 0, h, _ => h.1
  | k, a :: l, i + 1, h, hi => by
    have := mkdL_at (d := d) (k := n k a) (l := l) (i := i) h.2 (by simpa using hi)
    rw [List.take_succ_cons, nxL, List.getD_cons_succ]; exact this
variable (m n)
def parM (k : Int) (i : Nat) (l : List α) : List α := mkL m n k (l.take i) ++ l.drop i
variable {m n}
theorem parM_len {k : Int} {i : Nat} {l : List α} (h : i ≤ l.length) : (parM m n k i l).length = l.length := by
  simp [parM, mkL_len]; omega
theorem parM_at {d : α} {k : Int} {i : Nat} {l : List α} (h : i < l.length) : (parM m n k i l).getD i d = l.getD i d := by
  have h1 : (mkL m n k (l.take i)).length = i := by rw [mkL_len, List.length_take]; omega
  unfold parM
  rw [List.getD_eq_getElem?_getD, List.getElem?_append_right (by omega), h1, Nat.sub_self, List.getElem?_drop, Nat.add_zero, List.getD_eq_getElem?_getD]
theorem take_sL {d : α} {l : List α} {i : Nat} (h : i < l.length) : l.take (i + 1) = l.take i ++ [l.getD i d] := by
  rw [List.take_succ_eq_append_getElem h]; simp [h]
theorem mem_L {d : α} {l : List α} {i : Nat} (h : i < l.length) : l.getD i d ∈ l := by simp [h]
theorem parM_set {d : α} {k : Int} {i : Nat} {l : List α} (h : i < l.length) : (parM m n k i l).set i (m (nxL n k (l.take i)) (l.getD i d)) = parM m n k (i + 1) l := by
  have h1 : (mkL m n k (l.take i)).length = i := by rw [mkL_len, List.length_take]; omega
  unfold parM
  rw [List.set_append_right _ _ (by omega), h1, Nat.sub_self, List.drop_eq_getElem_cons h, List.set_cons_zero, take_sL (d := d) h, mkL_snoc, List.append_assoc]
  rfl
theorem parM_keep {f : α → β} (hf : ∀ k t, f (m k t) = f t) {k : Int} {i : Nat} {l : List α} : (parM m n k i l).map f = l.map f := by
  unfold parM
  rw [List.map_append, mkL_keep hf, ← List.map_append, List.take_append_drop]
theorem parM_full (k : Int) (l : List α) : parM m n k l.length l = mkL m n k l := by simp [parM]
theorem nxL_next {d : α} {k : Int} {i : Nat} {l : List α} (h : i < l.length) : nxL n k (l.take (i + 1)) = n (nxL n k (l.take i)) (l.getD i d) := by
  rw [take_sL (d := d) h, nxL_snoc]
end
end Go.Proofs.YtkmnepmnjpdpkaaDoor
