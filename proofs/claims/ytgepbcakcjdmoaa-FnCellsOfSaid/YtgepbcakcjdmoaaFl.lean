/- Contracts of functions that the laws of this seat call. -/
import Derived.Test.YtgepbcakcjdmoaaFk
import Derived.Test.YtgepbcakcjdmoaaShelf
import Derived.Test.YtgepbcakcjdmoaaEvC
set_option linter.all false
namespace Go.Proofs.Ytgepbcakcjdmoaa
open Go Go.Ev Go.RowKit Go.Ev.Enc Go.Pl

theorem isp_sort {b n : Nat} {q : List Int} {L : List Blk} (hL : L[b]? = some ⟨1, q.map fun n => .int .i64 n⟩) (hn : q.length = n) (hsz : n < 4611686018427387904) :
    ISpec Try.prog 70 [.sl b n 0 n n] L (fun r L' => r = .tup [] ∧ L' = L.set b ⟨1, (q.mergeSort fun x y => decide (x ≤ y)).map fun n => .int .i64 n⟩) :=
  ispec_sort (fun blk off cap zs w h1 h2 h3 => Try.slices_Sort_int blk off cap zs w h1 h2 h3) (fun p cap w => Try.slices_Sort_int_none p cap w) hL hn hsz
theorem isp_compact {b n : Nat} {q : List Int} {L : List Blk} (hL : L[b]? = some ⟨1, q.map fun n => .int .i64 n⟩) (hn : q.length = n) (hsz : n ≤ 9223372036854775807) :
    ISpec Try.prog 71 [.sl b n 0 n n] L (fun r L' => r = .sl b n 0 (Lib.compact q).length n ∧ L' = L.set b ⟨1, (Lib.compact q ++ List.replicate (q.length - (Lib.compact q).length) 0).map fun n => .int .i64 n⟩) :=
  ispec_compact (fun blk off cap zs w h1 h2 h3 => Try.slices_Compact_int blk off cap zs w h1 h2 h3) (fun p cap w => Try.slices_Compact_int_empty p cap w) (fun zs => Lib.compact_length_le zs) hL hn hsz
theorem can_sort : CanCall Try.prog 70 := ⟨_, Try.func70, rfl, rfl⟩
theorem can_compact : CanCall Try.prog 71 := ⟨_, Try.func71, rfl, rfl⟩

def bigB (ls : List (List Int)) : Prop := ls.length ≤ 1048576 ∧ ∀ k, k < ls.length → (ls.getD k []).length ≤ 1048576
instance (ls : List (List Int)) : Decidable (bigB ls) := by unfold bigB; infer_instance
def gAllLabels (ls : List (List Int)) : Option (List Int) := gd (bigB ls) (srt ls.flatten)
theorem gAllLabels_eq {ls : List (List Int)} (h : bigB ls) : gAllLabels ls = some (srt ls.flatten) := gd_eq h
theorem flat_take {ls : List (List Int)} {k : Nat} (h : k < ls.length) : (ls.take (k + 1)).flatten = (ls.take k).flatten ++ ls.getD k [] := by
  rw [List.take_succ_eq_append_getElem h, List.flatten_append]; simp [h]
def rowsOf (T : List (Nat × List Int)) : List AV := T.map fun p => .ds p.1 (p.2.map fun n => .int .i64 n)
theorem ee_rows1 (t t' u : Nat) (L : List Blk) (a : List Int) : expE (expC t L) (.ds t' [.ds u (a.map fun n => .int .i64 n)]) = .ds (min t' t) [.ds (min u t) (a.map fun n => .int .i64 n)] := by
  simp [expE, expC, stepC, Function.comp_def]
theorem ee_rows2 (t t' u v : Nat) (L : List Blk) (a b : List Int) : expE (expC t L) (.ds t' [.ds u (a.map fun n => .int .i64 n), .ds v (b.map fun n => .int .i64 n)]) = .ds (min t' t) [.ds (min u t) (a.map fun n => .int .i64 n), .ds (min v t) (b.map fun n => .int .i64 n)] := by
  simp [expE, expC, stepC, Function.comp_def]
theorem ee_rowsT (t t' : Nat) (L : List Blk) (T : List (Nat × List Int)) : expE (expC t L) (.ds t' (rowsOf T)) = .ds (min t' t) (T.map fun p => .ds (min p.1 t) (p.2.map fun n => .int .i64 n)) := by
  simp [rowsOf, expE, expC, stepC, Function.comp_def]
theorem expS_rowsT (t : Nat) (L : List Blk) (e ver off len : Nat) (T : List (Nat × List Int)) : expS t L ver off len (some ⟨e, rowsOf T⟩) = if (rowsOf T).length = ver ∧ off + len ≤ ver then .ds t (((T.drop off).take len).map fun p => .ds (min p.1 t) (p.2.map fun n => .int .i64 n)) else .any := by
  simp [rowsOf, expS, expE, stepC, Function.comp_def]
theorem dec_rows1 (a : List Int) : (dec (.ds 0 [.ds 0 (a.map fun n => .int .i64 n)]) : Option (List (List Int))) = some [a] := (ok _ _).2 rfl
theorem dec_rows2 (a b : List Int) : (dec (.ds 0 [.ds 0 (a.map fun n => .int .i64 n), .ds 0 (b.map fun n => .int .i64 n)]) : Option (List (List Int))) = some [a, b] := (ok _ _).2 rfl
theorem dec_rowsT (T : List (Nat × List Int)) : (dec (.ds 0 (T.map fun p => .ds 0 (p.2.map fun n => .int .i64 n))) : Option (List (List Int))) = some (T.map (·.2)) := (ok _ _).2 (by
  show _ = AV.ds 0 ((T.map (·.2)).map fun r => .ds 0 (r.map fun n => .int .i64 n))
  rw [List.map_map]; rfl)
theorem rowsOf_len (T : List (Nat × List Int)) : (rowsOf T).length = T.length := by simp [rowsOf]
theorem bigB1 {a : List Int} (h : a.length ≤ 1048576) : bigB [a] := ⟨by simp, fun k hk => by match k, hk with | 0, _ => exact h⟩
theorem bigB2 {a b : List Int} (h : a.length ≤ 1048576) (h' : b.length ≤ 1048576) : bigB [a, b] := ⟨by simp, fun k hk => by match k, hk with | 0, _ => exact h | 1, _ => exact h'⟩
attribute [go_sem] ee_rows1 ee_rows2 ee_rowsT expS_rowsT dec_rows1 dec_rows2 dec_rowsT rowsOf_len Nat.zero_min Nat.min_zero

def rowsM (l : List (List Int)) : Prop := ∀ k, k < l.length → (l.getD k []).length ≤ 1048576
instance (l : List (List Int)) : Decidable (rowsM l) := by unfold rowsM; infer_instance
def labsIn (b : List (List Int)) : Prop := ∀ k, k < b.length → labOK (b.getD k []) = true
instance (b : List (List Int)) : Decidable (labsIn b) := by unfold labsIn; infer_instance
/-- what is needed by others -/
def needF (b : List (List Int)) (i j : Int) : Nat → List Int
  | 0 => []
  | m + 1 => needF b i j m ++ if (m : Int) ≠ i ∧ (m : Int) ≠ j then b.getD m [] else []
def keptB (b : List (List Int)) (out : List Int) (i j : Int) : Prop := ((b.length ≤ 3 ∧ out.length ≤ 1048576) ∧ rowsM b) ∧ pairIn b.length i j
instance (b : List (List Int)) (out : List Int) (i j : Int) : Decidable (keptB b out i j) := by unfold keptB; infer_instance
def keptF (b : List (List Int)) (out : List Int) (i j : Int) : List Int := (srt [b.getD i.toNat [], b.getD j.toNat []].flatten).filter fun k => (out ++ needF b i j b.length).contains k
def gKept (b : List (List Int)) (out : List Int) (i j : Int) : Option (List Int) := gd (keptB b out i j) (keptF b out i j)
theorem gKept_eq {b : List (List Int)} {out : List Int} {i j : Int} (h : keptB b out i j) : gKept b out i j = some (keptF b out i j) := gd_eq h
def restF (b : List (List Int)) (i j : Int) : Nat → List (List Int)
  | 0 => []
  | m + 1 => restF b i j m ++ if (m : Int) ≠ i ∧ (m : Int) ≠ j then [b.getD m []] else []
theorem gCostOver_eq {e l : List Int} (hl : l.length < 4294967296) (h : ∀ x ∈ l, 0 ≤ x ∧ x < e.length) : gCostOver e l = some (costW e l) :=
  gd_eq ⟨hl, fun i hi => h _ (by simp [hi])⟩
theorem labOK_mem {l : List Int} (h : labOK l = true) {x : Int} (hx : x ∈ l) : 0 ≤ x ∧ x < 5 := by
  obtain ⟨i, hi, rfl⟩ := List.mem_iff_getElem.1 hx
  have := labOK_at h hi
  simp only [List.getD_eq_getElem?_getD, List.getElem?_eq_getElem hi, Option.getD_some] at this
  omega
theorem srt_len (l : List Int) : (srt l).length ≤ l.length := Nat.le_trans (Lib.compact_length_le _) (by rw [List.length_mergeSort]; exact Nat.le_refl _)
theorem costW_ok {e : List Int} {ls : List (List Int)} (he : e.length = 5) (hl : ls.flatten.length ≤ 16777216) (h : ∀ r ∈ ls, ∀ x ∈ r, 0 ≤ x ∧ x < 5) : gCostOver e (srt ls.flatten) = some (costW e (srt ls.flatten)) :=
  gCostOver_eq (by have := srt_len ls.flatten; omega) fun x hx => by
    rw [srt_mem, List.mem_flatten] at hx
    obtain ⟨r, hr, hx⟩ := hx
    have := h r hr x hx
    omega
theorem restF_mem {b : List (List Int)} {i j : Int} {r : List Int} : ∀ k, k ≤ b.length → r ∈ restF b i j k → ∃ m, m < k ∧ r = b.getD m [] ∧ (m : Int) ≠ i ∧ (m : Int) ≠ j
  | 0, _, h => by simp [restF] at h
  | k + 1, hk, h => by
    unfold restF at h
    rcases List.mem_append.1 h with h | h
    · obtain ⟨m, h1, h2, h3⟩ := restF_mem k (by omega) h
      exact ⟨m, by omega, h2, h3⟩
    · split at h
      · rename_i hc
        exact ⟨k, by omega, by simpa using h, hc⟩
      · simp at h
theorem restF_flat {b : List (List Int)} {i j : Int} (hb : rowsM b) : ∀ k, k ≤ b.length → (restF b i j k).flatten.length ≤ k * 1048576
  | 0, _ => by simp [restF]
  | k + 1, hk => by
    have h1 := restF_flat (i := i) (j := j) hb k (by omega)
    have h2 := hb k (by omega)
    rw [Nat.succ_mul]
    unfold restF
    split
    · simp only [List.flatten_append, List.length_append, List.flatten_cons, List.flatten_nil, List.length_nil]; omega
    · simp only [List.append_nil]; exact Nat.le_trans h1 (Nat.le_add_right _ _)
theorem labs_asc : labs.Pairwise (· < ·) := by simp [labs]
/-- a list of labels that ascends -/
theorem asc_labs {l : List Int} (h : l.Pairwise (· < ·)) (hm : ∀ x ∈ l, 0 ≤ x ∧ x < 5) : l = labs.filter fun k => l.contains k := by
  refine asc_ext h (labs_asc.sublist List.filter_sublist) fun x => ?_
  rw [List.mem_filter, List.contains_iff_mem]
  constructor
  · intro hx
    have := hm x hx
    refine ⟨?_, hx⟩
    have : x = 0 ∨ x = 1 ∨ x = 2 ∨ x = 3 ∨ x = 4 := by omega
    rcases this with rfl | rfl | rfl | rfl | rfl <;> simp [labs]
  · exact fun hx => hx.2
theorem keptF_len {b : List (List Int)} {out : List Int} {i j : Int} (hb : keptB b out i j) (hl : labsIn b) : (keptF b out i j).length ≤ 5 := by
  obtain ⟨⟨⟨b1, b2⟩, b3⟩, i1, i2, j1, j2⟩ := hb
  have bi := b3 i.toNat (by omega)
  have bj := b3 j.toNat (by omega)
  have hli := hl i.toNat (by omega)
  have hlj := hl j.toNat (by omega)
  unfold keptF
  refine Nat.le_trans (List.length_filter_le _ _) ?_
  have hsub : ∀ x ∈ srt [b.getD i.toNat [], b.getD j.toNat []].flatten, 0 ≤ x ∧ x < 5 := fun x hx => by
    rw [srt_mem] at hx
    simp only [List.flatten_cons, List.flatten_nil, List.append_nil, List.mem_append] at hx
    rcases hx with h | h
    · exact labOK_mem hli h
    · exact labOK_mem hlj h
  have ha := srt_asc [b.getD i.toNat [], b.getD j.toNat []].flatten
  rw [asc_labs ha hsub]
  exact Nat.le_trans (List.length_filter_le _ _) (Nat.le_refl _)
theorem keptF_mem {b : List (List Int)} {out : List Int} {i j : Int} {x : Int} : x ∈ keptF b out i j ↔ (x ∈ b.getD i.toNat [] ∨ x ∈ b.getD j.toNat []) ∧ (x ∈ out ∨ x ∈ needF b i j b.length) := by
  unfold keptF
  rw [List.mem_filter, srt_mem]
  simp only [List.flatten_cons, List.flatten_nil, List.append_nil, List.mem_append, List.contains_iff_mem]
theorem restF_len (b : List (List Int)) (i j : Int) : ∀ k, (restF b i j k).length ≤ k
  | 0 => Nat.le_refl _
  | k + 1 => by
    have := restF_len b i j k
    unfold restF
    split <;> simp <;> omega
def costI (e : List Int) (b : List (List Int)) (out : List Int) (i j : Int) : Int :=
  IntKind.i64.wrap (costW e (srt [b.getD i.toNat [], b.getD j.toNat []].flatten) + costW e (srt (keptF b out i j :: restF b i j b.length).flatten))
def gCostI (e : List Int) (b : List (List Int)) (out : List Int) (i j : Int) : Option Int := gd (e.length = 5 ∧ keptB b out i j ∧ labsIn b) (costI e b out i j)
theorem gCostI_eq {e : List Int} {b : List (List Int)} {out : List Int} {i j : Int} (h : e.length = 5 ∧ keptB b out i j ∧ labsIn b) : gCostI e b out i j = some (costI e b out i j) := gd_eq h
theorem evApp_ds2 {T : List (Nat × List Int)} {u : Nat} {r : List Int} (h : T.length ≤ 1048576) (h1 : T.length ≠ 0 ∨ True) :
    evApp [] (.ds 2 (rowsOf T)) [.ds u (r.map fun n => .int .i64 n)] 1 24 = some (.sl 0 (T.length + 1) 0 (T.length + 1) (T.length + 1), [⟨1, rowsOf (T ++ [(u, r)])⟩]) := by
  have ha : ((rowsOf T).all fun x => decide (x.cells.length = 1)) = true := by
    rw [List.all_eq_true]
    intro x hx
    obtain ⟨p, _, rfl⟩ := List.mem_map.1 hx
    rfl
  unfold evApp
  simp only [List.isEmpty_cons, Bool.false_eq_true, if_false, ha, rowsOf_len, List.length_cons, List.length_nil]
  rw [if_pos ⟨trivial, trivial, by omega, by omega⟩]
  simp [rowsOf]
theorem evApp_rows {T : List (Nat × List Int)} {u c : Nat} {r : List Int} (hc : T.length = c) (h : c ≤ 1048576) :
    evApp [⟨1, rowsOf T⟩] (.sl 0 c 0 c c) [.ds u (r.map fun n => .int .i64 n)] 1 24 = some (.sl 0 (c + 1) 0 (c + 1) (c + 1), [⟨1, rowsOf (T ++ [(u, r)])⟩]) := by
  rw [evApp_gen (q := rowsOf T) rfl (by rw [rowsOf_len]; exact hc) (by simp; omega) (by simp; omega)]
  simp [rowsOf]
/-- the rows so far: data, or a slice of our own -/
inductive IsRows : AV → List Blk → List (Nat × List Int) → Prop
  | ds (T) : IsRows (.ds 2 (rowsOf T)) [] T
  | sl (n T) : T.length = n → IsRows (.sl 0 n 0 n n) [⟨1, rowsOf T⟩] T
end Go.Proofs.Ytgepbcakcjdmoaa
