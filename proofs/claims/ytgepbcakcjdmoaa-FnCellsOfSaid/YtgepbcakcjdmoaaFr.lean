/- Contracts of functions that the laws of this seat call. -/
import Derived.Test.YtgepbcakcjdmoaaFq
set_option linter.all false
namespace Go.Proofs.Ytgepbcakcjdmoaa
open Go Go.Ev Go.RowKit Go.Ev.Enc Go.Pl

/-- sums over the numbers of labels, one label after another -/
def sumV (l : List Tsr) (b : List (List Int)) (out sh e : List Int) : List Int → List Int → List Int → List Int
  | [], nums, v => stepS l b out sh nums v
  | u :: us, nums, v => (List.range (e.getD u.toNat 0).toNat).foldl (fun v (x : Nat) => sumV l b out sh e us (nums.set u.toNat x) v) v
theorem sumV_len (l : List Tsr) (b : List (List Int)) (out sh e : List Int) : ∀ (us nums v : List Int), (sumV l b out sh e us nums v).length = v.length
  | [], nums, v => by rw [sumV, stepS_len]
  | u :: us, nums, v => by
    rw [sumV]
    have : ∀ (r : List Nat) (v : List Int), (r.foldl (fun v (x : Nat) => sumV l b out sh e us (nums.set u.toNat x) v) v).length = v.length := by
      intro r
      induction r with
      | nil => intro v; rfl
      | cons x r ih => intro v; rw [List.foldl_cons, ih, sumV_len]
    exact this _ v
/-- numbers that agree but for some labels -/
def agr (us p q : List Int) : Prop := ∀ k : Nat, k < 5 → ¬ (k : Int) ∈ us → q.getD k 0 = p.getD k 0
theorem sumV_agr (l : List Tsr) (b : List (List Int)) (out sh e : List Int) : ∀ (us p q v : List Int), p.length = 5 → q.length = 5 → (∀ u ∈ us, 0 ≤ u ∧ u < 5) → agr us p q → sumV l b out sh e us q v = sumV l b out sh e us p v
  | [], p, q, v, hp, hq, _, h => by
    have : q = p := ints_ext (by omega) fun i hi => h i (by omega) (by simp)
    rw [this]
  | u :: us, p, q, v, hp, hq, hu, h => by
    have hu0 := hu u (by simp)
    rw [sumV, sumV]
    congr 1
    funext v x
    refine sumV_agr l b out sh e us _ _ v (by simp [hp]) (by simp [hq]) (fun w hw => hu w (by simp [hw])) fun k hk hm => ?_
    rw [getD_set, getD_set]
    by_cases hku : u.toNat = k
    · rw [if_pos ⟨hku, by omega⟩, if_pos ⟨hku, by omega⟩]
    · rw [if_neg (fun h => hku h.1), if_neg (fun h => hku h.1)]
      refine h k hk ?_
      rw [List.mem_cons]
      rintro (e1 | e1)
      · exact hku (by omega)
      · exact hm e1
theorem agr_set {us p q : List Int} {u x : Int} (hp : p.length = 5) (hq : q.length = 5) (hu : 0 ≤ u ∧ u < 5) (h : agr (u :: us) p q) : agr us (p.set u.toNat x) (q.set u.toNat x) := fun k hk hm => by
  rw [getD_set, getD_set]
  by_cases hku : u.toNat = k
  · rw [if_pos ⟨hku, by omega⟩, if_pos ⟨hku, by omega⟩]
  · rw [if_neg (fun h => hku h.1), if_neg (fun h => hku h.1)]
    refine h k hk ?_
    rw [List.mem_cons]
    rintro (e1 | e1)
    · exact hku (by omega)
    · exact hm e1
theorem agr_trans {us p q r : List Int} {u : Int} (h : agr (u :: us) p q) {x : Int} (hq : q.length = 5) (hu : 0 ≤ u ∧ u < 5) (h' : agr us (q.set u.toNat x) r) : agr (u :: us) p r := fun k hk hm => by
  rw [List.mem_cons, not_or] at hm
  rw [h' k hk hm.2, getD_set, if_neg (fun h => hm.1 (by omega))]
  exact h k hk (by rw [List.mem_cons, not_or]; exact hm)
/-- numbers in range, but for the labels that are still to come -/
def inBut (e us nums : List Int) : Prop := ∀ k : Nat, k < 5 → 0 ≤ e.getD k 0 → ¬ (k : Int) ∈ us → 0 ≤ nums.getD k 0 ∧ nums.getD k 0 < e.getD k 0
theorem idx_ok {s i : List Int} (hl : i.length = s.length) (h : ∀ d, d < s.length → 0 ≤ i.getD d 0 ∧ i.getD d 0 < s.getD d 0) : idxOK s i = true := idxOK_true hl fun d hd => h d (by omega)
theorem rankOf_eq {s i : List Int} (hs : shapeOK s = true) (hi : idxOK s i = true) : rankOf s i = rankW s i s.length := by rw [rankOf, hs, hi]; rfl
theorem dec_nilI : (dec (.ds 0 []) : Option (List Int)) = some [] := (ok _ _).2 rfl
theorem shape_of {x : Tsr} (h : tsrOK x = true) : shapeOK x.sh = true := by unfold tsrOK at h; simp only [Bool.and_eq_true] at h; exact h.1.1

/-- what the closure reads and writes -/
structure SumCtx (l : List Tsr) (b : List (List Int)) (out e used : List Int) : Prop where
  ext : ExtOK l b e
  sz : szOK l b
  ol : out.length < 4294967296
  good : goodF out e = true
  ul : ∀ u ∈ used, 0 ≤ u ∧ u < 5
  ue : ∀ u ∈ used, 0 ≤ e.getD u.toNat 0
  ud : used.Pairwise (· < ·)
  un : used.length ≤ 5
end Go.Proofs.Ytgepbcakcjdmoaa
