/- Contracts of functions that the laws of this seat call. -/
import Derived.Test.YtgepbcakcjdmoaaFi
set_option linter.all false
namespace Go.Proofs.Ytgepbcakcjdmoaa
open Go Go.Ev Go.RowKit Go.Ev.Enc

theorem extAll_ok : ∀ (z : List (Tsr × List Int)) (o : List Int), (∀ x ∈ z, tsrOK x.1 = true) → extAll tsrOK o z = extAll (fun _ => true) o z
  | [], o, _ => rfl
  | x :: r, o, h => by
    unfold extAll
    have h0 := h x (by simp)
    have : (fun o => extAll tsrOK o r) = (fun o => extAll (fun _ => true) o r) := by
      funext o; exact extAll_ok r o fun y hy => h y (by simp [hy])
    rw [h0, this]
theorem extAll_bad : ∀ (z : List (Tsr × List Int)) (o : List Int), (∃ x ∈ z, tsrOK x.1 = false) → extAll tsrOK o z = none
  | [], o, h => by simp at h
  | x :: r, o, h => by
    unfold extAll
    split
    · rename_i hc
      obtain ⟨y, hy, hb⟩ := h
      rcases List.mem_cons.1 hy with rfl | hy
      · rw [hb] at hc; simp at hc
      · cases hE : extIn o (x.2.zip x.1.sh) with
        | none => rfl
        | some o' => exact extAll_bad r o' ⟨y, hy, hb⟩
    · rfl
theorem extF_eq (l : List Tsr) (b : List (List Int)) : extF l b = if tsrsOK l b = true then extS l b else none := by
  unfold extF extS tsrsOK
  by_cases hl : 1 ≤ l.length ∧ l.length ≤ 3 ∧ b.length = l.length
  · rw [if_pos hl, decide_eq_true (⟨hl.1, hl.2.1⟩ : 1 ≤ l.length ∧ l.length ≤ 3), decide_eq_true hl.2.2, Bool.and_true, Bool.and_true]
    by_cases ha : l.all tsrOK = true
    · rw [if_pos ha, extAll_ok]
      intro x hx
      exact List.all_eq_true.1 ha _ (List.of_mem_zip hx).1
    · rw [if_neg ha]
      have ha' : l.all tsrOK = false := by simpa using ha
      obtain ⟨y, hy, hb⟩ := List.all_eq_false.1 ha'
      refine extAll_bad _ _ ?_
      obtain ⟨i, hi, rfl⟩ := List.mem_iff_getElem.1 hy
      exact ⟨(l[i], b[i]'(by omega)), by rw [List.mem_iff_getElem]; exact ⟨i, by rw [List.length_zip]; omega, by simp⟩, by simpa using hb⟩
  · rw [if_neg hl]
    by_cases h1 : 1 ≤ l.length ∧ l.length ≤ 3
    · have h2 : ¬ b.length = l.length := fun h => hl ⟨h1.1, h1.2, h⟩
      rw [decide_eq_false h2, Bool.and_false, if_neg Bool.false_ne_true]
    · rw [decide_eq_false h1, Bool.and_false, Bool.false_and, if_neg Bool.false_ne_true]
theorem szOK_tsrsB {l : List Tsr} {b : List (List Int)} (h : szOK l b) : (l.length < 4294967296 ∧ b.length < 4294967296) ∧ tsrsB l := ⟨⟨h.1, h.2.1⟩, fun k hk => h.2.2.1 k hk⟩
theorem tsrsOK_len {l : List Tsr} {b : List (List Int)} (h : tsrsOK l b = true) : b.length = l.length := by
  unfold tsrsOK at h
  simp only [Bool.and_eq_true, decide_eq_true_eq] at h
  exact h.2
def pos1 (x : Int) : Int := if x < 0 then 1 else x
def gSpace (e : List Int) : Option (List Int × Int) := gd (e.length < 4294967296) (e.map pos1, prodW (e.map pos1))
theorem gSpace_eq {e : List Int} (h : e.length < 4294967296) : gSpace e = some (e.map pos1, prodW (e.map pos1)) := gd_eq h
theorem map_take_getD {e : List Int} {f : Int → Int} {k : Nat} (h : k < e.length) : (e.take (k + 1)).map f = (e.take k).map f ++ [f (e.getD k 0)] := by
  rw [take_succ_getD h, List.map_append]; rfl
theorem prodW_snoc (l : List Int) (x : Int) : prodW (l ++ [x]) = IntKind.i64.wrap (prodW l * x) := by simp [prodW]
/-- is a label needed by another tensor? -/
def othN (b : List (List Int)) (i j k : Int) : Nat → Bool
  | 0 => false
  | m + 1 => othN b i j k m || (decide ((m : Int) ≠ i ∧ (m : Int) ≠ j) && (b.getD m []).contains k)
def keepP (b : List (List Int)) (out : List Int) (i j k : Int) : Bool := ((b.getD i.toNat []).contains k || (b.getD j.toNat []).contains k) && (out.contains k || othN b i j k b.length)
def labs : List Int := [0, 1, 2, 3, 4]
theorem labs_take {α : Type} (f : Int → List α) {k : Nat} (h : k < 5) : (labs.take (k + 1)).flatMap f = (labs.take k).flatMap f ++ f (k : Nat) := by
  have : labs.take (k + 1) = labs.take k ++ [(k : Int)] := by
    match k, h with
    | 0, _ => rfl
    | 1, _ => rfl
    | 2, _ => rfl
    | 3, _ => rfl
    | 4, _ => rfl
  rw [this, List.flatMap_append]; simp
def keepF (b : List (List Int)) (out : List Int) (i j : Int) : List Int := labs.flatMap fun k => if keepP b out i j k then [k] else []
def pairIn (n : Nat) (i j : Int) : Prop := 0 ≤ i ∧ i < n ∧ 0 ≤ j ∧ j < n
instance (n : Nat) (i j : Int) : Decidable (pairIn n i j) := by unfold pairIn; infer_instance
def keepB (b : List (List Int)) (out : List Int) (i j : Int) : Prop := ((b.length < 4294967296 ∧ out.length < 4294967296) ∧ rowsOK b) ∧ pairIn b.length i j
instance (b : List (List Int)) (out : List Int) (i j : Int) : Decidable (keepB b out i j) := by unfold keepB; infer_instance
def gKeepFor (b : List (List Int)) (out : List Int) (i j : Int) : Option (List Int) := gd (keepB b out i j) (keepF b out i j)
theorem gKeepFor_eq {b : List (List Int)} {out : List Int} {i j : Int} (h : keepB b out i j) : gKeepFor b out i j = some (keepF b out i j) := gd_eq h
theorem plc_t {l : List Int} {n : Int} (h : 0 ≤ plc l n) : l.contains n = true := by rw [← plc_dec]; exact decide_eq_true h
theorem plc_f {l : List Int} {n : Int} (h : ¬ 0 ≤ plc l n) : l.contains n = false := by rw [← plc_dec]; exact decide_eq_false h
/-- the extents of the labels of the first contraction, and of the second -/
def costA (e : List Int) (b : List (List Int)) (i j k : Int) : Int := if ((b.getD i.toNat []).contains k || (b.getD j.toNat []).contains k) = true then e.getD k.toNat 0 else -1
def costR (e : List Int) (b : List (List Int)) (out : List Int) (i j k : Int) : Int := if (othN b i j k b.length || (keepF b out i j).contains k) = true then e.getD k.toNat 0 else -1
def costS (e : List Int) (b : List (List Int)) (out : List Int) (i j : Int) : Int :=
  IntKind.i64.wrap (prodW ((labs.map (costA e b i j)).map pos1) + prodW ((labs.map (costR e b out i j)).map pos1))
def gCostBy (e : List Int) (b : List (List Int)) (out : List Int) (i j : Int) : Option Int := gd (e.length = 5 ∧ keepB b out i j) (costS e b out i j)
theorem gCostBy_eq {e : List Int} {b : List (List Int)} {out : List Int} {i j : Int} (h : e.length = 5 ∧ keepB b out i j) : gCostBy e b out i j = some (costS e b out i j) := gd_eq h
theorem labs_map (f : Int → Int) {k : Nat} (h : k < 5) : (labs.take (k + 1)).map f = (labs.take k).map f ++ [f (k : Nat)] := by
  match k, h with
  | 0, _ => rfl
  | 1, _ => rfl
  | 2, _ => rfl
  | 3, _ => rfl
  | 4, _ => rfl
theorem keepF_len (b : List (List Int)) (out : List Int) (i j : Int) : (keepF b out i j).length ≤ 5 := by
  unfold keepF labs
  simp only [List.flatMap_cons, List.flatMap_nil, List.length_append]
  have h : ∀ (c : Bool) (k : Int), (if c = true then [k] else []).length ≤ 1 := by intro c k; cases c <;> simp
  have h0 := h (keepP b out i j 0) 0
  have h1 := h (keepP b out i j 1) 1
  have h2 := h (keepP b out i j 2) 2
  have h3 := h (keepP b out i j 3) 3
  have h4 := h (keepP b out i j 4) 4
  simp only [List.length_nil]
  omega
end Go.Proofs.Ytgepbcakcjdmoaa
