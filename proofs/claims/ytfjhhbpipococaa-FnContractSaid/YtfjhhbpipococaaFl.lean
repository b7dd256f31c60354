/- Contracts of functions that the laws of this seat call. -/
import Derived.Test.YtfjhhbpipococaaFk
import Derived.Test.YtfjhhbpipococaaShelf
import Derived.Test.YtfjhhbpipococaaEvC
set_option linter.all false
namespace Go.Proofs.Ytfjhhbpipococaa
open Go Go.Ev Go.RowKit Go.Ev.Enc Go.Pl

theorem isp_sort {b n : Nat} {q : List Int} {L : List Blk} (hL : L[b]? = some ⟨1, q.map fun n => .int .i64 n⟩) (hn : q.length = n) (hsz : n < 4611686018427387904) :
    ISpec Try.prog 91 [.sl b n 0 n n] L (fun r L' => r = .tup [] ∧ L' = L.set b ⟨1, (q.mergeSort fun x y => decide (x ≤ y)).map fun n => .int .i64 n⟩) :=
  ispec_sort (fun blk off cap zs w h1 h2 h3 => Try.slices_Sort_int blk off cap zs w h1 h2 h3) (fun p cap w => Try.slices_Sort_int_none p cap w) hL hn hsz
theorem isp_compact {b n : Nat} {q : List Int} {L : List Blk} (hL : L[b]? = some ⟨1, q.map fun n => .int .i64 n⟩) (hn : q.length = n) (hsz : n ≤ 9223372036854775807) :
    ISpec Try.prog 92 [.sl b n 0 n n] L (fun r L' => r = .sl b n 0 (Lib.compact q).length n ∧ L' = L.set b ⟨1, (Lib.compact q ++ List.replicate (q.length - (Lib.compact q).length) 0).map fun n => .int .i64 n⟩) :=
  ispec_compact (fun blk off cap zs w h1 h2 h3 => Try.slices_Compact_int blk off cap zs w h1 h2 h3) (fun p cap w => Try.slices_Compact_int_empty p cap w) (fun zs => Lib.compact_length_le zs) hL hn hsz
theorem can_sort : CanCall Try.prog 91 := ⟨_, Try.func91, rfl, rfl⟩
theorem can_compact : CanCall Try.prog 92 := ⟨_, Try.func92, rfl, rfl⟩

def bigB (ls : List (List Int)) : Prop := ls.length ≤ 1048576 ∧ ∀ k, k < ls.length → (ls.getD k []).length ≤ 1048576
instance (ls : List (List Int)) : Decidable (bigB ls) := by unfold bigB; infer_instance
def gAllLabels (ls : List (List Int)) : Option (List Int) := gd (bigB ls) (srt ls.flatten)
theorem gAllLabels_eq {ls : List (List Int)} (h : bigB ls) : gAllLabels ls = some (srt ls.flatten) := gd_eq h
theorem flat_take {ls : List (List Int)} {k : Nat} (h : k < ls.length) : (ls.take (k + 1)).flatten = (ls.take k).flatten ++ ls.getD k [] := by
  rw [List.take_succ_eq_append_getElem h, List.flatten_append]; simp [h]
set_option maxHeartbeats 2000000 in
set_option maxRecDepth 100000 in
theorem spec_allLabels {Sg : FuncId → Option (List AV → Option AV)} (hS : Sound Try.prog Sg) (hs : Sg 91 = none) (hc : Sg 92 = none) : ∀ a r, F1 gAllLabels a = some r → CSpec Try.prog 73 a r := by
  refine spec1 Try.func73 rfl Try.pf hS ?_
  intro ls r hr
  obtain ⟨⟨h1, h2⟩, rfl⟩ := gd_some hr
  repeat' (first | with_reducible refine RegQ.intro (by kernel_rfl) ?_ | ((with_reducible refine condQ_dec (fun hp => ?_) (fun hp => ?_)) <;> try simp only [hp]) | with_reducible refine condQ_beq (fun hp => ?_) (fun hp => ?_) | ((with_reducible refine wantQ_dec (fun hp => ?_) (fun hp => ?_)) <;> try simp only [hp]) | with_reducible refine wantQ_beq (fun hp => ?_) (fun hp => ?_) | ((with_reducible refine condQ_split (fun hp => ?_) (fun hp => ?_)) <;> try simp only [hp]) | ((with_reducible refine wantQ_split (fun hp => ?_) (fun hp => ?_)) <;> try simp only [hp]) | simp -implicitDefEqProofs (disch := omega) only [go_sem, Nat.reduceAdd, Nat.reduceSub, reduceCtorEq, Nat.reduceLT, Nat.reduceLeDiff, Nat.reduceEqDiff, Nat.reduceMul, Int.reduceToNat, ↓reduceIte, List.take_of_length_le, evApp_n1, evApp_i0, evApp_i1, evApp_i2, evApp_i3, evApp_i4, evApp_i5, evApp_s0, evApp_s1, evApp_s2, evApp_s3, if_pos, if_neg, decide_eq_true, decide_eq_false, beq_t, beq_f, wrap_succ, wrap_in, getD_ints, getD_intss, getD_tsrs, fillA_len, fillA_at, fillA_full, evApp_z0, evApp_z1, evApp_z2, evApp_z3, Try.ntmps73, Try.results73])
  refine LoopQ.mix (fun t0 L0 nn ss => ∃ (k : Nat) (q : List Int) (c : Nat) (_ : Unit), (∃ x : Nat → AV, ss = ⟨mixL 0 (.k :: .k :: .k :: .v (.sl 0 c 0 c c) :: .k :: .s :: .k :: .k :: .k :: .v (i64 (k : Nat)) :: .s :: .s :: .s :: .s :: .s :: .s :: .s :: .k :: .k :: .k :: .k :: []) t0 x, [⟨1, q.map fun n => .int .i64 n⟩]⟩) ∧ (k ≤ ls.length) ∧ (q.length = c ∧ c ≤ k * 1048576) ∧ (q = (ls.take k).flatten) ∧ nn = ls.length - k) ?_ ?_
  · exact ⟨_, ⟨0, [], 0, (), mixI rfl, Nat.zero_le _, ⟨rfl, Nat.zero_le _⟩, rfl, rfl⟩⟩
  · rintro I0 hI0 n s ⟨k, q, c, _, ⟨x, rfl⟩, g1, ⟨g2, g2'⟩, g3, rfl⟩
    by_cases hk : k < ls.length
    · have hf := flat_take hk
      rw [← g3] at hf
      have h3 := h2 k hk
      repeat' (first | with_reducible refine RegQ.intro (by kernel_rfl) ?_ | ((with_reducible refine condQ_dec (fun hp => ?_) (fun hp => ?_)) <;> try simp only [hp]) | with_reducible refine condQ_beq (fun hp => ?_) (fun hp => ?_) | ((with_reducible refine wantQ_dec (fun hp => ?_) (fun hp => ?_)) <;> try simp only [hp]) | with_reducible refine wantQ_beq (fun hp => ?_) (fun hp => ?_) | ((with_reducible refine condQ_split (fun hp => ?_) (fun hp => ?_)) <;> try simp only [hp]) | ((with_reducible refine wantQ_split (fun hp => ?_) (fun hp => ?_)) <;> try simp only [hp]) | simp -implicitDefEqProofs (disch := omega) only [go_sem, Nat.reduceAdd, Nat.reduceSub, reduceCtorEq, Nat.reduceLT, Nat.reduceLeDiff, Nat.reduceEqDiff, Nat.reduceMul, Int.reduceToNat, ↓reduceIte, List.take_of_length_le, evApp_n1, evApp_i0, evApp_i1, evApp_i2, evApp_i3, evApp_i4, evApp_i5, evApp_s0, evApp_s1, evApp_s2, evApp_s3, if_pos, if_neg, decide_eq_true, decide_eq_false, beq_t, beq_f, wrap_succ, wrap_in, getD_ints, getD_intss, getD_tsrs, fillA_len, fillA_at, fillA_full, evApp_z0, evApp_z1, evApp_z2, evApp_z3, Try.ntmps73, Try.results73])
      exact ⟨ls.length - (k + 1), by omega, hI0 _ _ ⟨k + 1, _, _, (), mixI rfl, hk, ⟨by simp [g2], by rw [Nat.add_mul]; omega⟩, hf.symm, rfl⟩⟩
    · obtain rfl : k = ls.length := by omega
      have hbig : c ≤ 1048576 * 1048576 := Nat.le_trans g2' (Nat.mul_le_mul_right _ h1)
      repeat' (first | with_reducible refine RegQ.intro (by kernel_rfl) ?_ | ((with_reducible refine condQ_dec (fun hp => ?_) (fun hp => ?_)) <;> try simp only [hp]) | with_reducible refine condQ_beq (fun hp => ?_) (fun hp => ?_) | ((with_reducible refine wantQ_dec (fun hp => ?_) (fun hp => ?_)) <;> try simp only [hp]) | with_reducible refine wantQ_beq (fun hp => ?_) (fun hp => ?_) | ((with_reducible refine condQ_split (fun hp => ?_) (fun hp => ?_)) <;> try simp only [hp]) | ((with_reducible refine wantQ_split (fun hp => ?_) (fun hp => ?_)) <;> try simp only [hp]) | simp -implicitDefEqProofs (disch := omega) only [go_sem, Nat.reduceAdd, Nat.reduceSub, reduceCtorEq, Nat.reduceLT, Nat.reduceLeDiff, Nat.reduceEqDiff, Nat.reduceMul, Int.reduceToNat, ↓reduceIte, List.take_of_length_le, evApp_n1, evApp_i0, evApp_i1, evApp_i2, evApp_i3, evApp_i4, evApp_i5, evApp_s0, evApp_s1, evApp_s2, evApp_s3, if_pos, if_neg, decide_eq_true, decide_eq_false, beq_t, beq_f, wrap_succ, wrap_in, getD_ints, getD_intss, getD_tsrs, fillA_len, fillA_at, fillA_full, evApp_z0, evApp_z1, evApp_z2, evApp_z3, Try.ntmps73, Try.results73, hs, hc, opQ_none])
      refine InlK_intro rfl rfl can_sort ((isp_sort rfl g2 (by omega)).mono ?_)
      rintro r L' ⟨rfl, rfl⟩
      repeat' (first | with_reducible refine RegQ.intro (by kernel_rfl) ?_ | ((with_reducible refine condQ_dec (fun hp => ?_) (fun hp => ?_)) <;> try simp only [hp]) | with_reducible refine condQ_beq (fun hp => ?_) (fun hp => ?_) | ((with_reducible refine wantQ_dec (fun hp => ?_) (fun hp => ?_)) <;> try simp only [hp]) | with_reducible refine wantQ_beq (fun hp => ?_) (fun hp => ?_) | ((with_reducible refine condQ_split (fun hp => ?_) (fun hp => ?_)) <;> try simp only [hp]) | ((with_reducible refine wantQ_split (fun hp => ?_) (fun hp => ?_)) <;> try simp only [hp]) | simp -implicitDefEqProofs (disch := omega) only [go_sem, Nat.reduceAdd, Nat.reduceSub, reduceCtorEq, Nat.reduceLT, Nat.reduceLeDiff, Nat.reduceEqDiff, Nat.reduceMul, Int.reduceToNat, ↓reduceIte, List.take_of_length_le, evApp_n1, evApp_i0, evApp_i1, evApp_i2, evApp_i3, evApp_i4, evApp_i5, evApp_s0, evApp_s1, evApp_s2, evApp_s3, if_pos, if_neg, decide_eq_true, decide_eq_false, beq_t, beq_f, wrap_succ, wrap_in, getD_ints, getD_intss, getD_tsrs, fillA_len, fillA_at, fillA_full, evApp_z0, evApp_z1, evApp_z2, evApp_z3, Try.ntmps73, Try.results73, hs, hc, opQ_none])
      refine InlK_intro rfl rfl can_compact ((isp_compact rfl (by rw [List.length_mergeSort]; exact g2) (by omega)).mono ?_)
      rintro r L' ⟨rfl, rfl⟩
      have hl := Lib.compact_length_le (q.mergeSort fun x y => decide (x ≤ y))
      rw [List.length_mergeSort] at hl
      repeat' (first | with_reducible refine RegQ.intro (by kernel_rfl) ?_ | ((with_reducible refine condQ_dec (fun hp => ?_) (fun hp => ?_)) <;> try simp only [hp]) | with_reducible refine condQ_beq (fun hp => ?_) (fun hp => ?_) | ((with_reducible refine wantQ_dec (fun hp => ?_) (fun hp => ?_)) <;> try simp only [hp]) | with_reducible refine wantQ_beq (fun hp => ?_) (fun hp => ?_) | ((with_reducible refine condQ_split (fun hp => ?_) (fun hp => ?_)) <;> try simp only [hp]) | ((with_reducible refine wantQ_split (fun hp => ?_) (fun hp => ?_)) <;> try simp only [hp]) | simp -implicitDefEqProofs (disch := omega) only [go_sem, Nat.reduceAdd, Nat.reduceSub, reduceCtorEq, Nat.reduceLT, Nat.reduceLeDiff, Nat.reduceEqDiff, Nat.reduceMul, Int.reduceToNat, ↓reduceIte, List.take_of_length_le, evApp_n1, evApp_i0, evApp_i1, evApp_i2, evApp_i3, evApp_i4, evApp_i5, evApp_s0, evApp_s1, evApp_s2, evApp_s3, if_pos, if_neg, decide_eq_true, decide_eq_false, beq_t, beq_f, wrap_succ, wrap_in, getD_ints, getD_intss, getD_tsrs, fillA_len, fillA_at, fillA_full, evApp_z0, evApp_z1, evApp_z2, evApp_z3, Try.ntmps73, Try.results73, List.length_mergeSort, List.take_left])
      rw [g3, List.take_length]; rfl

def rowsOf (T : List (Nat × List Int)) : List AV := T.map fun p => .ds p.1 (p.2.map fun n => .int .i64 n)
theorem ee_rows1 (t t' u : Nat) (L : List Blk) (a : List Int) : expE (expC t L) (.ds t' [.ds u (a.map fun n => .int .i64 n)]) = .ds (min t' t) [.ds (min u t) (a.map fun n => .int .i64 n)] := by
  simp [expE, expC, stepC, Function.comp_def]
theorem ee_rows2 (t t' u v : Nat) (L : List Blk) (a b : List Int) : expE (expC t L) (.ds t' [.ds u (a.map fun n => .int .i64 n), .ds v (b.map fun n => .int .i64 n)]) = .ds (min t' t) [.ds (min u t) (a.map fun n => .int .i64 n), .ds (min v t) (b.map fun n => .int .i64 n)] := by
  simp [expE, expC, stepC, Function.comp_def]
theorem ee_rowsT (t t' : Nat) (L : List Blk) (T : List (Nat × List Int)) : expE (expC t L) (.ds t' (rowsOf T)) = .ds (min t' t) (T.map fun p => .ds (min p.1 t) (p.2.map fun n => .int .i64 n)) := by
  simp [rowsOf, expE, expC, stepC, Function.comp_def]
theorem expS_rowsT (t : Nat) (L : List Blk) (e ver off len : Nat) (T : List (Nat × List Int)) : expS t L ver off len (some ⟨e, rowsOf T⟩) = if (rowsOf T).length = ver ∧ off + len ≤ ver then .ds t (((T.drop off).take len).map fun p => .ds (min p.1 t) (p.2.map fun n => .int .i64 n)) else .any := by
  simp [rowsOf, expS, expE, stepC, Function.comp_def]
theorem dec_rows1 (a : List Int) : (dec (.ds 0 [.ds 0 (a.map fun n => .int .i64 n)]) : Option (List (List Int))) = some [a] := (ok _ _).2 rfl
theorem dec_rows2 (a b : List Int) : (dec (.ds 0 [.ds 0 (a.map fun n => .int .i64 n), .ds 0 (b.map fun n => .int .i64 n)]) : Option (List (List Int))) = some [a, b] := (ok _ _).2 rfl
theorem dec_rowsT (T : List (Nat × List Int)) : (dec (.ds 0 (T.map fun p => .ds 0 (p.2.map fun n => .int .i64 n))) : Option (List (List Int))) = some (T.map (·.2)) := (ok _ _).2 (by
  show _ = AV.ds 0 ((T.map (·.2)).map fun r => .ds 0 (r.map fun n => .int .i64 n))
  rw [List.map_map]; rfl)
theorem rowsOf_len (T : List (Nat × List Int)) : (rowsOf T).length = T.length := by simp [rowsOf]
theorem bigB1 {a : List Int} (h : a.length ≤ 1048576) : bigB [a] := ⟨by simp, fun k hk => by match k, hk with | 0, _ => exact h⟩
theorem bigB2 {a b : List Int} (h : a.length ≤ 1048576) (h' : b.length ≤ 1048576) : bigB [a, b] := ⟨by simp, fun k hk => by match k, hk with | 0, _ => exact h | 1, _ => exact h'⟩
attribute [go_sem] ee_rows1 ee_rows2 ee_rowsT expS_rowsT dec_rows1 dec_rows2 dec_rowsT rowsOf_len Nat.zero_min Nat.min_zero

def rowsM (l : List (List Int)) : Prop := ∀ k, k < l.length → (l.getD k []).length ≤ 1048576
instance (l : List (List Int)) : Decidable (rowsM l) := by unfold rowsM; infer_instance
def labsIn (b : List (List Int)) : Prop := ∀ k, k < b.length → labOK (b.getD k []) = true
instance (b : List (List Int)) : Decidable (labsIn b) := by unfold labsIn; infer_instance
/-- what is needed by others -/
def needF (b : List (List Int)) (i j : Int) : Nat → List Int
  | 0 => []
  | m + 1 => needF b i j m ++ if (m : Int) ≠ i ∧ (m : Int) ≠ j then b.getD m [] else []
def keptB (b : List (List Int)) (out : List Int) (i j : Int) : Prop := ((b.length ≤ 3 ∧ out.length ≤ 1048576) ∧ rowsM b) ∧ pairIn b.length i j
instance (b : List (List Int)) (out : List Int) (i j : Int) : Decidable (keptB b out i j) := by unfold keptB; infer_instance
def keptF (b : List (List Int)) (out : List Int) (i j : Int) : List Int := (srt [b.getD i.toNat [], b.getD j.toNat []].flatten).filter fun k => (out ++ needF b i j b.length).contains k
def gKept (b : List (List Int)) (out : List Int) (i j : Int) : Option (List Int) := gd (keptB b out i j) (keptF b out i j)
theorem gKept_eq {b : List (List Int)} {out : List Int} {i j : Int} (h : keptB b out i j) : gKept b out i j = some (keptF b out i j) := gd_eq h
set_option maxHeartbeats 2000000 in
set_option maxRecDepth 100000 in
theorem spec_keptLabels {Sg : FuncId → Option (List AV → Option AV)} (hS : Sound Try.prog Sg) (ha : Sg 73 = some (F1 gAllLabels)) (hc : Sg 63 = some (F2 gContains)) : ∀ a r, F4 gKept a = some r → CSpec Try.prog 51 a r := by
  refine spec4 Try.func51 rfl Try.pf hS ?_
  intro b out i j r hr
  obtain ⟨⟨⟨⟨b1, b2⟩, b3⟩, i1, i2, j1, j2⟩, rfl⟩ := gd_some hr
  have bi := b3 i.toNat (by omega)
  have bj := b3 j.toNat (by omega)
  repeat' (first | with_reducible refine RegQ.intro (by kernel_rfl) ?_ | ((with_reducible refine condQ_dec (fun hp => ?_) (fun hp => ?_)) <;> try simp only [hp]) | with_reducible refine condQ_beq (fun hp => ?_) (fun hp => ?_) | ((with_reducible refine wantQ_dec (fun hp => ?_) (fun hp => ?_)) <;> try simp only [hp]) | with_reducible refine wantQ_beq (fun hp => ?_) (fun hp => ?_) | ((with_reducible refine condQ_split (fun hp => ?_) (fun hp => ?_)) <;> try simp only [hp]) | ((with_reducible refine wantQ_split (fun hp => ?_) (fun hp => ?_)) <;> try simp only [hp]) | simp -implicitDefEqProofs (disch := omega) only [go_sem, Nat.reduceAdd, Nat.reduceSub, reduceCtorEq, Nat.reduceLT, Nat.reduceLeDiff, Nat.reduceEqDiff, Nat.reduceMul, Int.reduceToNat, ↓reduceIte, List.take_of_length_le, evApp_n1, evApp_i0, evApp_i1, evApp_i2, evApp_i3, evApp_i4, evApp_i5, evApp_s0, evApp_s1, evApp_s2, evApp_s3, if_pos, if_neg, decide_eq_true, decide_eq_false, beq_t, beq_f, wrap_succ, wrap_in, getD_ints, getD_intss, getD_tsrs, fillA_len, fillA_at, fillA_full, evApp_z0, evApp_z1, evApp_z2, evApp_z3, Try.ntmps51, Try.results51])
  refine LoopQ.mix (fun t0 L0 nn ss => ∃ (k : Nat) (q : List Int) (c : Nat) (_ : Unit), (∃ x : Nat → AV, ss = ⟨mixL 0 (.k :: .k :: .k :: .k :: .k :: .k :: .k :: .k :: .k :: .v (.sl 0 c 0 c c) :: .s :: .s :: .k :: .k :: .k :: .k :: .k :: .k :: .k :: .k :: .v (i64 (k : Nat)) :: .s :: .s :: .s :: .s :: .s :: .s :: .s :: .s :: .s :: .s :: .s :: .s :: .s :: .s :: .s :: .s :: .k :: .k :: .k :: .k :: .k :: .k :: .k :: .k :: .k :: .k :: .k :: .k :: .k :: .k :: .k :: .k :: .k :: .k :: .k :: .k :: .k :: .k :: .k :: .k :: .k :: []) t0 x, [⟨1, q.map fun n => .int .i64 n⟩]⟩) ∧ (k ≤ b.length) ∧ (q.length = c ∧ c ≤ 1048576 + k * 1048576) ∧ (q = out ++ needF b i j k) ∧ nn = b.length - k) ?_ ?_
  · exact ⟨_, ⟨0, out, out.length, (), mixI rfl, Nat.zero_le _, ⟨rfl, by omega⟩, by simp [needF], rfl⟩⟩
  · rintro I0 hI0 n s ⟨k, q, c, _, ⟨x, rfl⟩, g1, ⟨g2, g2'⟩, g3, rfl⟩
    by_cases hk : k < b.length
    · have h3 := b3 k hk
      have e2 : c + (b.getD k []).length ≤ 1048576 + (k + 1) * 1048576 := by rw [Nat.succ_mul]; omega
      have e1 : c ≤ 1048576 + (k + 1) * 1048576 := Nat.le_trans (Nat.le_add_right _ _) e2
      repeat' (first | with_reducible refine RegQ.intro (by kernel_rfl) ?_ | ((with_reducible refine condQ_dec (fun hp => ?_) (fun hp => ?_)) <;> try simp only [hp]) | with_reducible refine condQ_beq (fun hp => ?_) (fun hp => ?_) | ((with_reducible refine wantQ_dec (fun hp => ?_) (fun hp => ?_)) <;> try simp only [hp]) | with_reducible refine wantQ_beq (fun hp => ?_) (fun hp => ?_) | ((with_reducible refine condQ_split (fun hp => ?_) (fun hp => ?_)) <;> try simp only [hp]) | ((with_reducible refine wantQ_split (fun hp => ?_) (fun hp => ?_)) <;> try simp only [hp]) | simp -implicitDefEqProofs (disch := omega) only [go_sem, Nat.reduceAdd, Nat.reduceSub, reduceCtorEq, Nat.reduceLT, Nat.reduceLeDiff, Nat.reduceEqDiff, Nat.reduceMul, Int.reduceToNat, ↓reduceIte, List.take_of_length_le, evApp_n1, evApp_i0, evApp_i1, evApp_i2, evApp_i3, evApp_i4, evApp_i5, evApp_s0, evApp_s1, evApp_s2, evApp_s3, if_pos, if_neg, decide_eq_true, decide_eq_false, beq_t, beq_f, wrap_succ, wrap_in, getD_ints, getD_intss, getD_tsrs, fillA_len, fillA_at, fillA_full, evApp_z0, evApp_z1, evApp_z2, evApp_z3, Try.ntmps51, Try.results51])
      · have e : needF b i j (k + 1) = needF b i j k := by rw [needF, if_neg (fun h => h.1 hp), List.append_nil]
        exact ⟨b.length - (k + 1), by omega, hI0 _ _ ⟨k + 1, q, c, (), mixI rfl, hk, ⟨g2, e1⟩, by rw [e]; exact g3, rfl⟩⟩
      · have e : needF b i j (k + 1) = needF b i j k := by rw [needF, if_neg (fun h => h.2 hp), List.append_nil]
        exact ⟨b.length - (k + 1), by omega, hI0 _ _ ⟨k + 1, q, c, (), mixI rfl, hk, ⟨g2, e1⟩, by rw [e]; exact g3, rfl⟩⟩
      · rename_i hi
        exact ⟨b.length - (k + 1), by omega, hI0 _ _ ⟨k + 1, _, _, (), mixI rfl, hk, ⟨by simp [g2], e2⟩, by rw [g3, needF, if_pos ⟨hi, hp⟩, List.append_assoc], rfl⟩⟩
    · obtain rfl : k = b.length := by omega
      unfold keptF
      rw [← g3]
      repeat' (first | with_reducible refine RegQ.intro (by kernel_rfl) ?_ | ((with_reducible refine condQ_dec (fun hp => ?_) (fun hp => ?_)) <;> try simp only [hp]) | with_reducible refine condQ_beq (fun hp => ?_) (fun hp => ?_) | ((with_reducible refine wantQ_dec (fun hp => ?_) (fun hp => ?_)) <;> try simp only [hp]) | with_reducible refine wantQ_beq (fun hp => ?_) (fun hp => ?_) | ((with_reducible refine condQ_split (fun hp => ?_) (fun hp => ?_)) <;> try simp only [hp]) | ((with_reducible refine wantQ_split (fun hp => ?_) (fun hp => ?_)) <;> try simp only [hp]) | simp -implicitDefEqProofs (disch := omega) only [go_sem, Nat.reduceAdd, Nat.reduceSub, reduceCtorEq, Nat.reduceLT, Nat.reduceLeDiff, Nat.reduceEqDiff, Nat.reduceMul, Int.reduceToNat, ↓reduceIte, List.take_of_length_le, evApp_n1, evApp_i0, evApp_i1, evApp_i2, evApp_i3, evApp_i4, evApp_i5, evApp_s0, evApp_s1, evApp_s2, evApp_s3, if_pos, if_neg, decide_eq_true, decide_eq_false, beq_t, beq_f, wrap_succ, wrap_in, getD_ints, getD_intss, getD_tsrs, fillA_len, fillA_at, fillA_full, evApp_z0, evApp_z1, evApp_z2, evApp_z3, Try.ntmps51, Try.results51, ha, gAllLabels_eq (bigB2 bi bj)])
      have hS : (srt [b.getD i.toNat [], b.getD j.toNat []].flatten).length ≤ 2097152 := by
        refine Nat.le_trans (Lib.compact_length_le _) ?_
        rw [List.length_mergeSort]; simp only [List.flatten_cons, List.flatten_nil, List.length_append, List.length_nil]; omega
      generalize srt [b.getD i.toNat [], b.getD j.toNat []].flatten = S at hS
      refine LoopQ.mix (fun t0 L0 nn ss => ∃ (m : Nat) (p : List Int) (d : Nat) (_ : Unit), (∃ x : Nat → AV, ss = ⟨mixL 0 (.k :: .k :: .k :: .k :: .k :: .k :: .k :: .k :: .k :: .k :: .k :: .k :: .v (.sl 1 d 0 d d) :: .k :: .s :: .k :: .k :: .k :: .k :: .k :: .k :: .k :: .k :: .k :: .k :: .k :: .k :: .k :: .k :: .k :: .k :: .k :: .k :: .k :: .k :: .k :: .k :: .k :: .k :: .k :: .k :: .k :: .k :: .k :: .k :: .k :: .k :: .k :: .k :: .v (i64 (m : Nat)) :: .s :: .s :: .s :: .s :: .s :: .s :: .s :: .s :: .s :: .s :: .s :: .k :: []) t0 x, [⟨1, q.map fun n => .int .i64 n⟩, ⟨1, p.map fun n => .int .i64 n⟩]⟩) ∧ (m ≤ S.length) ∧ (p.length = d ∧ d ≤ m) ∧ (p = (S.take m).filter fun k => q.contains k) ∧ nn = S.length - m) ?_ ?_
      · exact ⟨_, ⟨0, [], 0, (), mixI rfl, Nat.zero_le _, ⟨rfl, Nat.zero_le _⟩, rfl, rfl⟩⟩
      · rintro I1 hI1 n s ⟨m, p, d, _, ⟨x, rfl⟩, m1, ⟨m2, m2'⟩, m3, rfl⟩
        by_cases hm : m < S.length
        · have hT : (S.take (m + 1)).filter (fun k => q.contains k) = p ++ if q.contains (S.getD m 0) = true then [S.getD m 0] else [] := by
            rw [take_succ_getD hm, List.filter_append, ← m3]; simp [List.filter_cons]
          repeat' (first | with_reducible refine RegQ.intro (by kernel_rfl) ?_ | ((with_reducible refine condQ_dec (fun hp => ?_) (fun hp => ?_)) <;> try simp only [hp]) | with_reducible refine condQ_beq (fun hp => ?_) (fun hp => ?_) | ((with_reducible refine wantQ_dec (fun hp => ?_) (fun hp => ?_)) <;> try simp only [hp]) | with_reducible refine wantQ_beq (fun hp => ?_) (fun hp => ?_) | ((with_reducible refine condQ_split (fun hp => ?_) (fun hp => ?_)) <;> try simp only [hp]) | ((with_reducible refine wantQ_split (fun hp => ?_) (fun hp => ?_)) <;> try simp only [hp]) | simp -implicitDefEqProofs (disch := omega) only [go_sem, Nat.reduceAdd, Nat.reduceSub, reduceCtorEq, Nat.reduceLT, Nat.reduceLeDiff, Nat.reduceEqDiff, Nat.reduceMul, Int.reduceToNat, ↓reduceIte, List.take_of_length_le, evApp_n1, evApp_i0, evApp_i1, evApp_i2, evApp_i3, evApp_i4, evApp_i5, evApp_s0, evApp_s1, evApp_s2, evApp_s3, if_pos, if_neg, decide_eq_true, decide_eq_false, beq_t, beq_f, wrap_succ, wrap_in, getD_ints, getD_intss, getD_tsrs, fillA_len, fillA_at, fillA_full, evApp_z0, evApp_z1, evApp_z2, evApp_z3, Try.ntmps51, Try.results51, hc, gContains_eq])
          · rw [if_pos hp] at hT
            exact ⟨S.length - (m + 1), by omega, hI1 _ _ ⟨m + 1, _, _, (), mixI rfl, hm, ⟨by simp [m2], by omega⟩, hT.symm, rfl⟩⟩
          · rw [hp, if_neg Bool.false_ne_true, List.append_nil] at hT
            exact ⟨S.length - (m + 1), by omega, hI1 _ _ ⟨m + 1, _, _, (), mixI rfl, hm, ⟨m2, by omega⟩, hT.symm, rfl⟩⟩
        · obtain rfl : m = S.length := by omega
          repeat' (first | with_reducible refine RegQ.intro (by kernel_rfl) ?_ | ((with_reducible refine condQ_dec (fun hp => ?_) (fun hp => ?_)) <;> try simp only [hp]) | with_reducible refine condQ_beq (fun hp => ?_) (fun hp => ?_) | ((with_reducible refine wantQ_dec (fun hp => ?_) (fun hp => ?_)) <;> try simp only [hp]) | with_reducible refine wantQ_beq (fun hp => ?_) (fun hp => ?_) | ((with_reducible refine condQ_split (fun hp => ?_) (fun hp => ?_)) <;> try simp only [hp]) | ((with_reducible refine wantQ_split (fun hp => ?_) (fun hp => ?_)) <;> try simp only [hp]) | simp -implicitDefEqProofs (disch := omega) only [go_sem, Nat.reduceAdd, Nat.reduceSub, reduceCtorEq, Nat.reduceLT, Nat.reduceLeDiff, Nat.reduceEqDiff, Nat.reduceMul, Int.reduceToNat, ↓reduceIte, List.take_of_length_le, evApp_n1, evApp_i0, evApp_i1, evApp_i2, evApp_i3, evApp_i4, evApp_i5, evApp_s0, evApp_s1, evApp_s2, evApp_s3, if_pos, if_neg, decide_eq_true, decide_eq_false, beq_t, beq_f, wrap_succ, wrap_in, getD_ints, getD_intss, getD_tsrs, fillA_len, fillA_at, fillA_full, evApp_z0, evApp_z1, evApp_z2, evApp_z3, Try.ntmps51, Try.results51])
          rw [m3, List.take_length]

def restF (b : List (List Int)) (i j : Int) : Nat → List (List Int)
  | 0 => []
  | m + 1 => restF b i j m ++ if (m : Int) ≠ i ∧ (m : Int) ≠ j then [b.getD m []] else []
theorem gCostOver_eq {e l : List Int} (hl : l.length < 4294967296) (h : ∀ x ∈ l, 0 ≤ x ∧ x < e.length) : gCostOver e l = some (costW e l) :=
  gd_eq ⟨hl, fun i hi => h _ (by simp [hi])⟩
theorem labOK_mem {l : List Int} (h : labOK l = true) {x : Int} (hx : x ∈ l) : 0 ≤ x ∧ x < 5 := by
  obtain ⟨i, hi, rfl⟩ := List.mem_iff_getElem.1 hx
  have := labOK_at h hi
  simp only [List.getD_eq_getElem?_getD, List.getElem?_eq_getElem hi, Option.getD_some] at this
  omega
theorem srt_len (l : List Int) : (srt l).length ≤ l.length := Nat.le_trans (Lib.compact_length_le _) (by rw [List.length_mergeSort]; exact Nat.le_refl _)
theorem costW_ok {e : List Int} {ls : List (List Int)} (he : e.length = 5) (hl : ls.flatten.length ≤ 16777216) (h : ∀ r ∈ ls, ∀ x ∈ r, 0 ≤ x ∧ x < 5) : gCostOver e (srt ls.flatten) = some (costW e (srt ls.flatten)) :=
  gCostOver_eq (by have := srt_len ls.flatten; omega) fun x hx => by
    rw [srt_mem, List.mem_flatten] at hx
    obtain ⟨r, hr, hx⟩ := hx
    have := h r hr x hx
    omega
theorem restF_mem {b : List (List Int)} {i j : Int} {r : List Int} : ∀ k, k ≤ b.length → r ∈ restF b i j k → ∃ m, m < k ∧ r = b.getD m [] ∧ (m : Int) ≠ i ∧ (m : Int) ≠ j
  | 0, _, h => by simp [restF] at h
  | k + 1, hk, h => by
    unfold restF at h
    rcases List.mem_append.1 h with h | h
    · obtain ⟨m, h1, h2, h3⟩ := restF_mem k (by omega) h
      exact ⟨m, by omega, h2, h3⟩
    · split at h
      · rename_i hc
        exact ⟨k, by omega, by simpa using h, hc⟩
      · simp at h
theorem restF_flat {b : List (List Int)} {i j : Int} (hb : rowsM b) : ∀ k, k ≤ b.length → (restF b i j k).flatten.length ≤ k * 1048576
  | 0, _ => by simp [restF]
  | k + 1, hk => by
    have h1 := restF_flat (i := i) (j := j) hb k (by omega)
    have h2 := hb k (by omega)
    rw [Nat.succ_mul]
    unfold restF
    split
    · simp only [List.flatten_append, List.length_append, List.flatten_cons, List.flatten_nil, List.length_nil]; omega
    · simp only [List.append_nil]; exact Nat.le_trans h1 (Nat.le_add_right _ _)
theorem labs_asc : labs.Pairwise (· < ·) := by simp [labs]
/-- a list of labels that ascends -/
theorem asc_labs {l : List Int} (h : l.Pairwise (· < ·)) (hm : ∀ x ∈ l, 0 ≤ x ∧ x < 5) : l = labs.filter fun k => l.contains k := by
  refine asc_ext h (labs_asc.sublist List.filter_sublist) fun x => ?_
  rw [List.mem_filter, List.contains_iff_mem]
  constructor
  · intro hx
    have := hm x hx
    refine ⟨?_, hx⟩
    have : x = 0 ∨ x = 1 ∨ x = 2 ∨ x = 3 ∨ x = 4 := by omega
    rcases this with rfl | rfl | rfl | rfl | rfl <;> simp [labs]
  · exact fun hx => hx.2
theorem keptF_len {b : List (List Int)} {out : List Int} {i j : Int} (hb : keptB b out i j) (hl : labsIn b) : (keptF b out i j).length ≤ 5 := by
  obtain ⟨⟨⟨b1, b2⟩, b3⟩, i1, i2, j1, j2⟩ := hb
  have bi := b3 i.toNat (by omega)
  have bj := b3 j.toNat (by omega)
  have hli := hl i.toNat (by omega)
  have hlj := hl j.toNat (by omega)
  unfold keptF
  refine Nat.le_trans (List.length_filter_le _ _) ?_
  have hsub : ∀ x ∈ srt [b.getD i.toNat [], b.getD j.toNat []].flatten, 0 ≤ x ∧ x < 5 := fun x hx => by
    rw [srt_mem] at hx
    simp only [List.flatten_cons, List.flatten_nil, List.append_nil, List.mem_append] at hx
    rcases hx with h | h
    · exact labOK_mem hli h
    · exact labOK_mem hlj h
  have ha := srt_asc [b.getD i.toNat [], b.getD j.toNat []].flatten
  rw [asc_labs ha hsub]
  exact Nat.le_trans (List.length_filter_le _ _) (Nat.le_refl _)
theorem keptF_mem {b : List (List Int)} {out : List Int} {i j : Int} {x : Int} : x ∈ keptF b out i j ↔ (x ∈ b.getD i.toNat [] ∨ x ∈ b.getD j.toNat []) ∧ (x ∈ out ∨ x ∈ needF b i j b.length) := by
  unfold keptF
  rw [List.mem_filter, srt_mem]
  simp only [List.flatten_cons, List.flatten_nil, List.append_nil, List.mem_append, List.contains_iff_mem]
theorem restF_len (b : List (List Int)) (i j : Int) : ∀ k, (restF b i j k).length ≤ k
  | 0 => Nat.le_refl _
  | k + 1 => by
    have := restF_len b i j k
    unfold restF
    split <;> simp <;> omega
def costI (e : List Int) (b : List (List Int)) (out : List Int) (i j : Int) : Int :=
  IntKind.i64.wrap (costW e (srt [b.getD i.toNat [], b.getD j.toNat []].flatten) + costW e (srt (keptF b out i j :: restF b i j b.length).flatten))
def gCostI (e : List Int) (b : List (List Int)) (out : List Int) (i j : Int) : Option Int := gd (e.length = 5 ∧ keptB b out i j ∧ labsIn b) (costI e b out i j)
theorem gCostI_eq {e : List Int} {b : List (List Int)} {out : List Int} {i j : Int} (h : e.length = 5 ∧ keptB b out i j ∧ labsIn b) : gCostI e b out i j = some (costI e b out i j) := gd_eq h
theorem evApp_ds2 {T : List (Nat × List Int)} {u : Nat} {r : List Int} (h : T.length ≤ 1048576) (h1 : T.length ≠ 0 ∨ True) :
    evApp [] (.ds 2 (rowsOf T)) [.ds u (r.map fun n => .int .i64 n)] 1 24 = some (.sl 0 (T.length + 1) 0 (T.length + 1) (T.length + 1), [⟨1, rowsOf (T ++ [(u, r)])⟩]) := by
  have ha : ((rowsOf T).all fun x => decide (x.cells.length = 1)) = true := by
    rw [List.all_eq_true]
    intro x hx
    obtain ⟨p, _, rfl⟩ := List.mem_map.1 hx
    rfl
  unfold evApp
  simp only [List.isEmpty_cons, Bool.false_eq_true, if_false, ha, rowsOf_len, List.length_cons, List.length_nil]
  rw [if_pos ⟨trivial, trivial, by omega, by omega⟩]
  simp [rowsOf]
theorem evApp_rows {T : List (Nat × List Int)} {u c : Nat} {r : List Int} (hc : T.length = c) (h : c ≤ 1048576) :
    evApp [⟨1, rowsOf T⟩] (.sl 0 c 0 c c) [.ds u (r.map fun n => .int .i64 n)] 1 24 = some (.sl 0 (c + 1) 0 (c + 1) (c + 1), [⟨1, rowsOf (T ++ [(u, r)])⟩]) := by
  rw [evApp_gen (q := rowsOf T) rfl (by rw [rowsOf_len]; exact hc) (by simp; omega) (by simp; omega)]
  simp [rowsOf]
/-- the rows so far: data, or a slice of our own -/
inductive IsRows : AV → List Blk → List (Nat × List Int) → Prop
  | ds (T) : IsRows (.ds 2 (rowsOf T)) [] T
  | sl (n T) : T.length = n → IsRows (.sl 0 n 0 n n) [⟨1, rowsOf T⟩] T
set_option maxHeartbeats 2000000 in
set_option maxRecDepth 100000 in
theorem spec_costByImpl {Sg : FuncId → Option (List AV → Option AV)} (hS : Sound Try.prog Sg) (hk : Sg 51 = some (F4 gKept)) (ha : Sg 73 = some (F1 gAllLabels)) (hc : Sg 74 = some (F2 gCostOver)) : ∀ a r, F5 gCostI a = some r → CSpec Try.prog 58 a r := by
  refine spec5 Try.func58 rfl Try.pf hS ?_
  intro e b out i j r hr
  obtain ⟨⟨he, hb, hl⟩, rfl⟩ := gd_some hr
  obtain ⟨⟨⟨b1, b2⟩, b3⟩, i1, i2, j1, j2⟩ := id hb
  have bi := b3 i.toNat (by omega)
  have bj := b3 j.toNat (by omega)
  repeat' (first | with_reducible refine RegQ.intro (by kernel_rfl) ?_ | ((with_reducible refine condQ_dec (fun hp => ?_) (fun hp => ?_)) <;> try simp only [hp]) | with_reducible refine condQ_beq (fun hp => ?_) (fun hp => ?_) | ((with_reducible refine wantQ_dec (fun hp => ?_) (fun hp => ?_)) <;> try simp only [hp]) | with_reducible refine wantQ_beq (fun hp => ?_) (fun hp => ?_) | ((with_reducible refine condQ_split (fun hp => ?_) (fun hp => ?_)) <;> try simp only [hp]) | ((with_reducible refine wantQ_split (fun hp => ?_) (fun hp => ?_)) <;> try simp only [hp]) | simp -implicitDefEqProofs (disch := omega) only [go_sem, Nat.reduceAdd, Nat.reduceSub, reduceCtorEq, Nat.reduceLT, Nat.reduceLeDiff, Nat.reduceEqDiff, Nat.reduceMul, Int.reduceToNat, ↓reduceIte, List.take_of_length_le, evApp_n1, evApp_i0, evApp_i1, evApp_i2, evApp_i3, evApp_i4, evApp_i5, evApp_s0, evApp_s1, evApp_s2, evApp_s3, if_pos, if_neg, decide_eq_true, decide_eq_false, beq_t, beq_f, wrap_succ, wrap_in, getD_ints, getD_intss, getD_tsrs, fillA_len, fillA_at, fillA_full, evApp_z0, evApp_z1, evApp_z2, evApp_z3, Try.ntmps58, Try.results58, hk, gKept_eq hb])
  refine LoopQ.mix (fun t0 L0 nn ss => ∃ (k : Nat) (v : AV) (Lr : List Blk) (T : List (Nat × List Int)) (_ : Unit), (∃ x : Nat → AV, ss = ⟨mixL 0 (.k :: .k :: .k :: .k :: .k :: .k :: .k :: .k :: .k :: .k :: .k :: .v (v) :: .s :: .s :: .k :: .k :: .k :: .k :: .k :: .k :: .k :: .k :: .v (i64 (k : Nat)) :: .s :: .s :: .s :: .s :: .s :: .s :: .s :: .s :: .s :: .s :: .s :: .s :: .s :: .s :: .s :: .s :: .s :: .k :: .k :: .k :: .k :: .k :: .k :: .k :: .k :: .k :: .k :: .k :: .k :: .k :: .k :: .k :: .k :: .k :: []) t0 x, Lr⟩) ∧ (k ≤ b.length) ∧ (IsRows v Lr T) ∧ (T.map (·.2) = keptF b out i j :: restF b i j k) ∧ nn = b.length - k) ?_ ?_
  · exact ⟨_, ⟨0, _, _, [(1, keptF b out i j)], (), mixI rfl, Nat.zero_le _, IsRows.ds [(1, keptF b out i j)], rfl, rfl⟩⟩
  · rintro I0 hI0 n s ⟨k, v, Lr, T, _, ⟨x, rfl⟩, g1, g2, g3, rfl⟩
    by_cases hk5 : k < b.length
    · have h3 := b3 k hk5
      have hT := congrArg List.length g3
      simp only [List.length_map, List.length_cons] at hT
      have hR : (restF b i j k).length ≤ k := restF_len b i j k
      rcases g2 with ⟨T⟩ | ⟨c, T, g2⟩
      · repeat' (first | with_reducible refine RegQ.intro (by kernel_rfl) ?_ | ((with_reducible refine condQ_dec (fun hp => ?_) (fun hp => ?_)) <;> try simp only [hp]) | with_reducible refine condQ_beq (fun hp => ?_) (fun hp => ?_) | ((with_reducible refine wantQ_dec (fun hp => ?_) (fun hp => ?_)) <;> try simp only [hp]) | with_reducible refine wantQ_beq (fun hp => ?_) (fun hp => ?_) | ((with_reducible refine condQ_split (fun hp => ?_) (fun hp => ?_)) <;> try simp only [hp]) | ((with_reducible refine wantQ_split (fun hp => ?_) (fun hp => ?_)) <;> try simp only [hp]) | simp -implicitDefEqProofs (disch := omega) only [go_sem, Nat.reduceAdd, Nat.reduceSub, reduceCtorEq, Nat.reduceLT, Nat.reduceLeDiff, Nat.reduceEqDiff, Nat.reduceMul, Int.reduceToNat, ↓reduceIte, List.take_of_length_le, evApp_n1, evApp_i0, evApp_i1, evApp_i2, evApp_i3, evApp_i4, evApp_i5, evApp_s0, evApp_s1, evApp_s2, evApp_s3, if_pos, if_neg, decide_eq_true, decide_eq_false, beq_t, beq_f, wrap_succ, wrap_in, getD_ints, getD_intss, getD_tsrs, fillA_len, fillA_at, fillA_full, evApp_z0, evApp_z1, evApp_z2, evApp_z3, Try.ntmps58, Try.results58, rowsOf_len, evApp_ds2])
        · exact ⟨b.length - (k + 1), by omega, hI0 _ _ ⟨k + 1, _, _, T, (), mixI rfl, hk5, .ds _, by rw [g3, restF, if_neg (fun h => h.1 hp), List.append_nil], rfl⟩⟩
        · exact ⟨b.length - (k + 1), by omega, hI0 _ _ ⟨k + 1, _, _, T, (), mixI rfl, hk5, .ds _, by rw [g3, restF, if_neg (fun h => h.2 hp), List.append_nil], rfl⟩⟩
        · rename_i hi
          exact ⟨b.length - (k + 1), by omega, hI0 _ _ ⟨k + 1, _, _, T ++ [(0, b.getD k [])], (), mixI rfl, hk5, .sl _ _ (by simp), by rw [List.map_append, g3, restF, if_pos ⟨hi, hp⟩]; rfl, rfl⟩⟩
      · repeat' (first | with_reducible refine RegQ.intro (by kernel_rfl) ?_ | ((with_reducible refine condQ_dec (fun hp => ?_) (fun hp => ?_)) <;> try simp only [hp]) | with_reducible refine condQ_beq (fun hp => ?_) (fun hp => ?_) | ((with_reducible refine wantQ_dec (fun hp => ?_) (fun hp => ?_)) <;> try simp only [hp]) | with_reducible refine wantQ_beq (fun hp => ?_) (fun hp => ?_) | ((with_reducible refine condQ_split (fun hp => ?_) (fun hp => ?_)) <;> try simp only [hp]) | ((with_reducible refine wantQ_split (fun hp => ?_) (fun hp => ?_)) <;> try simp only [hp]) | simp -implicitDefEqProofs (disch := omega) only [go_sem, Nat.reduceAdd, Nat.reduceSub, reduceCtorEq, Nat.reduceLT, Nat.reduceLeDiff, Nat.reduceEqDiff, Nat.reduceMul, Int.reduceToNat, ↓reduceIte, List.take_of_length_le, evApp_n1, evApp_i0, evApp_i1, evApp_i2, evApp_i3, evApp_i4, evApp_i5, evApp_s0, evApp_s1, evApp_s2, evApp_s3, if_pos, if_neg, decide_eq_true, decide_eq_false, beq_t, beq_f, wrap_succ, wrap_in, getD_ints, getD_intss, getD_tsrs, fillA_len, fillA_at, fillA_full, evApp_z0, evApp_z1, evApp_z2, evApp_z3, Try.ntmps58, Try.results58, rowsOf_len, evApp_rows])
        · exact ⟨b.length - (k + 1), by omega, hI0 _ _ ⟨k + 1, _, _, T, (), mixI rfl, hk5, .sl _ _ g2, by rw [g3, restF, if_neg (fun h => h.1 hp), List.append_nil], rfl⟩⟩
        · exact ⟨b.length - (k + 1), by omega, hI0 _ _ ⟨k + 1, _, _, T, (), mixI rfl, hk5, .sl _ _ g2, by rw [g3, restF, if_neg (fun h => h.2 hp), List.append_nil], rfl⟩⟩
        · rename_i hi
          exact ⟨b.length - (k + 1), by omega, hI0 _ _ ⟨k + 1, _, _, T ++ [(0, b.getD k [])], (), mixI rfl, hk5, .sl _ _ (by simp [g2]), by rw [List.map_append, g3, restF, if_pos ⟨hi, hp⟩]; rfl, rfl⟩⟩
    · obtain rfl : k = b.length := by omega
      have hk2 := keptF_len hb hl
      have hr1 := restF_flat (i := i) (j := j) b3 b.length (Nat.le_refl _)
      have hr2 := restF_len b i j b.length
      have hli := hl i.toNat (by omega)
      have hlj := hl j.toNat (by omega)
      have q1 : gCostOver e (srt [b.getD i.toNat [], b.getD j.toNat []].flatten) = some (costW e (srt [b.getD i.toNat [], b.getD j.toNat []].flatten)) := costW_ok he (by simp only [List.flatten_cons, List.flatten_nil, List.length_append, List.length_nil]; omega) (by
        intro r hr x hx
        rcases List.mem_cons.1 hr with rfl | hr
        · exact labOK_mem hli hx
        · have : r = b.getD j.toNat [] := by simpa using hr
          subst this; exact labOK_mem hlj hx)
      have q2 : gCostOver e (srt (T.map (·.2)).flatten) = some (costW e (srt (T.map (·.2)).flatten)) := by
        rw [g3]
        refine costW_ok he (by simp only [List.flatten_cons, List.length_append]; omega) (by
          intro r hr x hx
          rcases List.mem_cons.1 hr with rfl | hr
          · rcases (keptF_mem.1 hx).1 with h | h
            · exact labOK_mem hli h
            · exact labOK_mem hlj h
          · obtain ⟨m, m1, rfl, _⟩ := restF_mem _ (Nat.le_refl _) hr
            exact labOK_mem (hl m m1) hx)
      have q3 : gAllLabels (T.map (·.2)) = some (srt (T.map (·.2)).flatten) := by
        refine gAllLabels_eq ?_
        rw [g3]
        refine ⟨by simp; omega, fun m hm => ?_⟩
        have hmem : (keptF b out i j :: restF b i j b.length).getD m [] ∈ keptF b out i j :: restF b i j b.length := by
          rw [List.getD_eq_getElem?_getD, List.getElem?_eq_getElem hm]; exact List.getElem_mem _
        rcases List.mem_cons.1 hmem with h | h
        · rw [h]; omega
        · obtain ⟨m', m1, h, _⟩ := restF_mem _ (Nat.le_refl _) h
          rw [h]; exact b3 m' m1
      unfold costI
      rw [← g3]
      rcases g2 with ⟨T⟩ | ⟨c, T, g2⟩
      · repeat' (first | with_reducible refine RegQ.intro (by kernel_rfl) ?_ | ((with_reducible refine condQ_dec (fun hp => ?_) (fun hp => ?_)) <;> try simp only [hp]) | with_reducible refine condQ_beq (fun hp => ?_) (fun hp => ?_) | ((with_reducible refine wantQ_dec (fun hp => ?_) (fun hp => ?_)) <;> try simp only [hp]) | with_reducible refine wantQ_beq (fun hp => ?_) (fun hp => ?_) | ((with_reducible refine condQ_split (fun hp => ?_) (fun hp => ?_)) <;> try simp only [hp]) | ((with_reducible refine wantQ_split (fun hp => ?_) (fun hp => ?_)) <;> try simp only [hp]) | simp -implicitDefEqProofs (disch := omega) only [go_sem, Nat.reduceAdd, Nat.reduceSub, reduceCtorEq, Nat.reduceLT, Nat.reduceLeDiff, Nat.reduceEqDiff, Nat.reduceMul, Int.reduceToNat, ↓reduceIte, List.take_of_length_le, evApp_n1, evApp_i0, evApp_i1, evApp_i2, evApp_i3, evApp_i4, evApp_i5, evApp_s0, evApp_s1, evApp_s2, evApp_s3, if_pos, if_neg, decide_eq_true, decide_eq_false, beq_t, beq_f, wrap_succ, wrap_in, getD_ints, getD_intss, getD_tsrs, fillA_len, fillA_at, fillA_full, evApp_z0, evApp_z1, evApp_z2, evApp_z3, Try.ntmps58, Try.results58, rowsOf_len, ha, gAllLabels_eq (bigB2 bi bj), hc, q1, q2, q3])
        trace_state
      · repeat' (first | with_reducible refine RegQ.intro (by kernel_rfl) ?_ | ((with_reducible refine condQ_dec (fun hp => ?_) (fun hp => ?_)) <;> try simp only [hp]) | with_reducible refine condQ_beq (fun hp => ?_) (fun hp => ?_) | ((with_reducible refine wantQ_dec (fun hp => ?_) (fun hp => ?_)) <;> try simp only [hp]) | with_reducible refine wantQ_beq (fun hp => ?_) (fun hp => ?_) | ((with_reducible refine condQ_split (fun hp => ?_) (fun hp => ?_)) <;> try simp only [hp]) | ((with_reducible refine wantQ_split (fun hp => ?_) (fun hp => ?_)) <;> try simp only [hp]) | simp -implicitDefEqProofs (disch := omega) only [go_sem, Nat.reduceAdd, Nat.reduceSub, reduceCtorEq, Nat.reduceLT, Nat.reduceLeDiff, Nat.reduceEqDiff, Nat.reduceMul, Int.reduceToNat, ↓reduceIte, List.take_of_length_le, evApp_n1, evApp_i0, evApp_i1, evApp_i2, evApp_i3, evApp_i4, evApp_i5, evApp_s0, evApp_s1, evApp_s2, evApp_s3, if_pos, if_neg, decide_eq_true, decide_eq_false, beq_t, beq_f, wrap_succ, wrap_in, getD_ints, getD_intss, getD_tsrs, fillA_len, fillA_at, fillA_full, evApp_z0, evApp_z1, evApp_z2, evApp_z3, Try.ntmps58, Try.results58, rowsOf_len, ha, gAllLabels_eq (bigB2 bi bj), hc, q1, q2, q3])
        trace_state
end Go.Proofs.Ytfjhhbpipococaa
