/- Contracts of functions that the laws of this seat call. -/
import Derived.Test.YtfjhhbpipococaaFi
set_option linter.all false
namespace Go.Proofs.Ytfjhhbpipococaa
open Go Go.Ev Go.RowKit Go.Ev.Enc

theorem extAll_ok : ∀ (z : List (Tsr × List Int)) (o : List Int), (∀ x ∈ z, tsrOK x.1 = true) → extAll tsrOK o z = extAll (fun _ => true) o z
  | [], o, _ => rfl
  | x :: r, o, h => by
    unfold extAll
    have h0 := h x (by simp)
    have : (fun o => extAll tsrOK o r) = (fun o => extAll (fun _ => true) o r) := by
      funext o; exact extAll_ok r o fun y hy => h y (by simp [hy])
    rw [h0, this]
theorem extAll_bad : ∀ (z : List (Tsr × List Int)) (o : List Int), (∃ x ∈ z, tsrOK x.1 = false) → extAll tsrOK o z = none
  | [], o, h => by simp at h
  | x :: r, o, h => by
    unfold extAll
    split
    · rename_i hc
      obtain ⟨y, hy, hb⟩ := h
      rcases List.mem_cons.1 hy with rfl | hy
      · rw [hb] at hc; simp at hc
      · cases hE : extIn o (x.2.zip x.1.sh) with
        | none => rfl
        | some o' => exact extAll_bad r o' ⟨y, hy, hb⟩
    · rfl
theorem extF_eq (l : List Tsr) (b : List (List Int)) : extF l b = if tsrsOK l b = true then extS l b else none := by
  unfold extF extS tsrsOK
  by_cases hl : 1 ≤ l.length ∧ l.length ≤ 3 ∧ b.length = l.length
  · rw [if_pos hl, decide_eq_true (⟨hl.1, hl.2.1⟩ : 1 ≤ l.length ∧ l.length ≤ 3), decide_eq_true hl.2.2, Bool.and_true, Bool.and_true]
    by_cases ha : l.all tsrOK = true
    · rw [if_pos ha, extAll_ok]
      intro x hx
      exact List.all_eq_true.1 ha _ (List.of_mem_zip hx).1
    · rw [if_neg ha]
      have ha' : l.all tsrOK = false := by simpa using ha
      obtain ⟨y, hy, hb⟩ := List.all_eq_false.1 ha'
      refine extAll_bad _ _ ?_
      obtain ⟨i, hi, rfl⟩ := List.mem_iff_getElem.1 hy
      exact ⟨(l[i], b[i]'(by omega)), by rw [List.mem_iff_getElem]; exact ⟨i, by rw [List.length_zip]; omega, by simp⟩, by simpa using hb⟩
  · rw [if_neg hl]
    by_cases h1 : 1 ≤ l.length ∧ l.length ≤ 3
    · have h2 : ¬ b.length = l.length := fun h => hl ⟨h1.1, h1.2, h⟩
      rw [decide_eq_false h2, Bool.and_false, if_neg Bool.false_ne_true]
    · rw [decide_eq_false h1, Bool.and_false, Bool.false_and, if_neg Bool.false_ne_true]
theorem szOK_tsrsB {l : List Tsr} {b : List (List Int)} (h : szOK l b) : (l.length < 4294967296 ∧ b.length < 4294967296) ∧ tsrsB l := ⟨⟨h.1, h.2.1⟩, fun k hk => h.2.2.1 k hk⟩
theorem tsrsOK_len {l : List Tsr} {b : List (List Int)} (h : tsrsOK l b = true) : b.length = l.length := by
  unfold tsrsOK at h
  simp only [Bool.and_eq_true, decide_eq_true_eq] at h
  exact h.2
set_option maxHeartbeats 2000000 in
set_option maxRecDepth 100000 in
theorem spec_ExtentsOf {Sg : FuncId → Option (List AV → Option AV)} (hS : Sound Try.prog Sg) (hc : Sg 60 = some (F2 gValidTensors)) (hi : Sg 69 = some (F2 gExtentsS)) : ∀ a r, F2 gExtentsOf a = some r → CSpec Try.prog 42 a r := by
  refine spec2 Try.func42 rfl Try.pf hS ?_
  intro l b r hr
  obtain ⟨h1, rfl⟩ := gd_some hr
  cases hv : tsrsOK l b with
  | false =>
    repeat' (first | with_reducible refine RegQ.intro (by kernel_rfl) ?_ | ((with_reducible refine condQ_dec (fun hp => ?_) (fun hp => ?_)) <;> try simp only [hp]) | with_reducible refine condQ_beq (fun hp => ?_) (fun hp => ?_) | ((with_reducible refine wantQ_dec (fun hp => ?_) (fun hp => ?_)) <;> try simp only [hp]) | with_reducible refine wantQ_beq (fun hp => ?_) (fun hp => ?_) | ((with_reducible refine condQ_split (fun hp => ?_) (fun hp => ?_)) <;> try simp only [hp]) | ((with_reducible refine wantQ_split (fun hp => ?_) (fun hp => ?_)) <;> try simp only [hp]) | simp -implicitDefEqProofs (disch := omega) only [go_sem, Nat.reduceAdd, Nat.reduceSub, reduceCtorEq, Nat.reduceLT, Nat.reduceLeDiff, Nat.reduceEqDiff, Nat.reduceMul, Int.reduceToNat, ↓reduceIte, List.take_of_length_le, evApp_n1, evApp_i0, evApp_i1, evApp_i2, evApp_i3, evApp_i4, evApp_i5, evApp_s0, evApp_s1, evApp_s2, evApp_s3, if_pos, if_neg, decide_eq_true, decide_eq_false, beq_t, beq_f, wrap_succ, wrap_in, getD_ints, getD_intss, getD_tsrs, fillA_len, fillA_at, fillA_full, Try.ntmps42, Try.results42, hc, hi, gValidTensors_eq (szOK_tsrsB h1), hv])
    rw [extF_eq, hv]; rfl
  | true =>
    repeat' (first | with_reducible refine RegQ.intro (by kernel_rfl) ?_ | ((with_reducible refine condQ_dec (fun hp => ?_) (fun hp => ?_)) <;> try simp only [hp]) | with_reducible refine condQ_beq (fun hp => ?_) (fun hp => ?_) | ((with_reducible refine wantQ_dec (fun hp => ?_) (fun hp => ?_)) <;> try simp only [hp]) | with_reducible refine wantQ_beq (fun hp => ?_) (fun hp => ?_) | ((with_reducible refine condQ_split (fun hp => ?_) (fun hp => ?_)) <;> try simp only [hp]) | ((with_reducible refine wantQ_split (fun hp => ?_) (fun hp => ?_)) <;> try simp only [hp]) | simp -implicitDefEqProofs (disch := omega) only [go_sem, Nat.reduceAdd, Nat.reduceSub, reduceCtorEq, Nat.reduceLT, Nat.reduceLeDiff, Nat.reduceEqDiff, Nat.reduceMul, Int.reduceToNat, ↓reduceIte, List.take_of_length_le, evApp_n1, evApp_i0, evApp_i1, evApp_i2, evApp_i3, evApp_i4, evApp_i5, evApp_s0, evApp_s1, evApp_s2, evApp_s3, if_pos, if_neg, decide_eq_true, decide_eq_false, beq_t, beq_f, wrap_succ, wrap_in, getD_ints, getD_intss, getD_tsrs, fillA_len, fillA_at, fillA_full, Try.ntmps42, Try.results42, hc, hi, gValidTensors_eq (szOK_tsrsB h1), hv, gExtentsS_eq ⟨h1, tsrsOK_len hv⟩])
    rw [extF_eq, hv]; rfl

def pos1 (x : Int) : Int := if x < 0 then 1 else x
def gSpace (e : List Int) : Option (List Int × Int) := gd (e.length < 4294967296) (e.map pos1, prodW (e.map pos1))
theorem gSpace_eq {e : List Int} (h : e.length < 4294967296) : gSpace e = some (e.map pos1, prodW (e.map pos1)) := gd_eq h
theorem map_take_getD {e : List Int} {f : Int → Int} {k : Nat} (h : k < e.length) : (e.take (k + 1)).map f = (e.take k).map f ++ [f (e.getD k 0)] := by
  rw [take_succ_getD h, List.map_append]; rfl
theorem prodW_snoc (l : List Int) (x : Int) : prodW (l ++ [x]) = IntKind.i64.wrap (prodW l * x) := by simp [prodW]
set_option maxHeartbeats 2000000 in
set_option maxRecDepth 100000 in
theorem spec_space {Sg : FuncId → Option (List AV → Option AV)} (hS : Sound Try.prog Sg) : ∀ a r, F1 gSpace a = some r → CSpec Try.prog 83 a r := by
  refine spec1 Try.func83 rfl Try.pf hS ?_
  intro e r hr
  obtain ⟨h1, rfl⟩ := gd_some hr
  repeat' (first | with_reducible refine RegQ.intro (by kernel_rfl) ?_ | ((with_reducible refine condQ_dec (fun hp => ?_) (fun hp => ?_)) <;> try simp only [hp]) | with_reducible refine condQ_beq (fun hp => ?_) (fun hp => ?_) | ((with_reducible refine wantQ_dec (fun hp => ?_) (fun hp => ?_)) <;> try simp only [hp]) | with_reducible refine wantQ_beq (fun hp => ?_) (fun hp => ?_) | ((with_reducible refine condQ_split (fun hp => ?_) (fun hp => ?_)) <;> try simp only [hp]) | ((with_reducible refine wantQ_split (fun hp => ?_) (fun hp => ?_)) <;> try simp only [hp]) | simp -implicitDefEqProofs (disch := omega) only [go_sem, Nat.reduceAdd, Nat.reduceSub, reduceCtorEq, Nat.reduceLT, Nat.reduceLeDiff, Nat.reduceEqDiff, Nat.reduceMul, Int.reduceToNat, ↓reduceIte, List.take_of_length_le, evApp_n1, evApp_i0, evApp_i1, evApp_i2, evApp_i3, evApp_i4, evApp_i5, evApp_s0, evApp_s1, evApp_s2, evApp_s3, if_pos, if_neg, decide_eq_true, decide_eq_false, beq_t, beq_f, wrap_succ, wrap_in, getD_ints, getD_intss, getD_tsrs, fillA_len, fillA_at, fillA_full, Try.ntmps83, Try.results83])
  refine LoopQ.mix (fun t0 L0 nn ss => ∃ (k : Nat) (q : List Int) (p : Int) (_ : Unit), (∃ x : Nat → AV, ss = ⟨mixL 0 (.k :: .k :: .k :: .k :: .v (.sl 0 k 0 k k) :: .v (i64 p) :: .v (i64 (k : Nat)) :: .s :: .k :: .s :: .s :: .s :: .s :: .s :: .s :: .s :: .s :: .s :: .s :: .s :: .s :: .s :: .s :: .s :: .s :: .s :: .s :: .s :: .k :: .k :: []) t0 x, [⟨1, q.map fun n => .int .i64 n⟩]⟩) ∧ (k ≤ e.length) ∧ (q.length = k) ∧ (q = (e.take k).map pos1) ∧ (p = prodW q) ∧ nn = e.length - k) ?_ ?_
  · exact ⟨_, ⟨0, [], 1, (), mixI rfl, Nat.zero_le _, rfl, rfl, rfl, rfl⟩⟩
  · rintro I0 hI0 n s ⟨k, q, p, _, ⟨x, rfl⟩, g1, g2, g3, g4, rfl⟩
    by_cases hlt : k < e.length
    · repeat' (first | with_reducible refine RegQ.intro (by kernel_rfl) ?_ | ((with_reducible refine condQ_dec (fun hp => ?_) (fun hp => ?_)) <;> try simp only [hp]) | with_reducible refine condQ_beq (fun hp => ?_) (fun hp => ?_) | ((with_reducible refine wantQ_dec (fun hp => ?_) (fun hp => ?_)) <;> try simp only [hp]) | with_reducible refine wantQ_beq (fun hp => ?_) (fun hp => ?_) | ((with_reducible refine condQ_split (fun hp => ?_) (fun hp => ?_)) <;> try simp only [hp]) | ((with_reducible refine wantQ_split (fun hp => ?_) (fun hp => ?_)) <;> try simp only [hp]) | simp -implicitDefEqProofs (disch := omega) only [go_sem, Nat.reduceAdd, Nat.reduceSub, reduceCtorEq, Nat.reduceLT, Nat.reduceLeDiff, Nat.reduceEqDiff, Nat.reduceMul, Int.reduceToNat, ↓reduceIte, List.take_of_length_le, evApp_n1, evApp_i0, evApp_i1, evApp_i2, evApp_i3, evApp_i4, evApp_i5, evApp_s0, evApp_s1, evApp_s2, evApp_s3, if_pos, if_neg, decide_eq_true, decide_eq_false, beq_t, beq_f, wrap_succ, wrap_in, getD_ints, getD_intss, getD_tsrs, fillA_len, fillA_at, fillA_full, Try.ntmps83, Try.results83])
      · exact ⟨e.length - (k + 1), by omega, hI0 _ _ ⟨k + 1, q ++ [1], _, (), mixI rfl, hlt, by simp [g2], by rw [map_take_getD hlt, ← g3, pos1, if_pos hp], by rw [prodW_snoc, g4], rfl⟩⟩
      · exact ⟨e.length - (k + 1), by omega, hI0 _ _ ⟨k + 1, q ++ [e.getD k 0], _, (), mixI rfl, hlt, by simp [g2], by rw [map_take_getD hlt, ← g3, pos1, if_neg hp], by rw [prodW_snoc, g4], rfl⟩⟩
    · obtain rfl : k = e.length := by omega
      rw [List.take_length] at g3
      repeat' (first | with_reducible refine RegQ.intro (by kernel_rfl) ?_ | ((with_reducible refine condQ_dec (fun hp => ?_) (fun hp => ?_)) <;> try simp only [hp]) | with_reducible refine condQ_beq (fun hp => ?_) (fun hp => ?_) | ((with_reducible refine wantQ_dec (fun hp => ?_) (fun hp => ?_)) <;> try simp only [hp]) | with_reducible refine wantQ_beq (fun hp => ?_) (fun hp => ?_) | ((with_reducible refine condQ_split (fun hp => ?_) (fun hp => ?_)) <;> try simp only [hp]) | ((with_reducible refine wantQ_split (fun hp => ?_) (fun hp => ?_)) <;> try simp only [hp]) | simp -implicitDefEqProofs (disch := omega) only [go_sem, Nat.reduceAdd, Nat.reduceSub, reduceCtorEq, Nat.reduceLT, Nat.reduceLeDiff, Nat.reduceEqDiff, Nat.reduceMul, Int.reduceToNat, ↓reduceIte, List.take_of_length_le, evApp_n1, evApp_i0, evApp_i1, evApp_i2, evApp_i3, evApp_i4, evApp_i5, evApp_s0, evApp_s1, evApp_s2, evApp_s3, if_pos, if_neg, decide_eq_true, decide_eq_false, beq_t, beq_f, wrap_succ, wrap_in, getD_ints, getD_intss, getD_tsrs, fillA_len, fillA_at, fillA_full, Try.ntmps83, Try.results83])
      rw [g4, g3]

/-- is a label needed by another tensor? -/
def othN (b : List (List Int)) (i j k : Int) : Nat → Bool
  | 0 => false
  | m + 1 => othN b i j k m || (decide ((m : Int) ≠ i ∧ (m : Int) ≠ j) && (b.getD m []).contains k)
def keepP (b : List (List Int)) (out : List Int) (i j k : Int) : Bool := ((b.getD i.toNat []).contains k || (b.getD j.toNat []).contains k) && (out.contains k || othN b i j k b.length)
def labs : List Int := [0, 1, 2, 3, 4]
theorem labs_take {α : Type} (f : Int → List α) {k : Nat} (h : k < 5) : (labs.take (k + 1)).flatMap f = (labs.take k).flatMap f ++ f (k : Nat) := by
  have : labs.take (k + 1) = labs.take k ++ [(k : Int)] := by
    match k, h with
    | 0, _ => rfl
    | 1, _ => rfl
    | 2, _ => rfl
    | 3, _ => rfl
    | 4, _ => rfl
  rw [this, List.flatMap_append]; simp
def keepF (b : List (List Int)) (out : List Int) (i j : Int) : List Int := labs.flatMap fun k => if keepP b out i j k then [k] else []
def pairIn (n : Nat) (i j : Int) : Prop := 0 ≤ i ∧ i < n ∧ 0 ≤ j ∧ j < n
instance (n : Nat) (i j : Int) : Decidable (pairIn n i j) := by unfold pairIn; infer_instance
def keepB (b : List (List Int)) (out : List Int) (i j : Int) : Prop := ((b.length < 4294967296 ∧ out.length < 4294967296) ∧ rowsOK b) ∧ pairIn b.length i j
instance (b : List (List Int)) (out : List Int) (i j : Int) : Decidable (keepB b out i j) := by unfold keepB; infer_instance
def gKeepFor (b : List (List Int)) (out : List Int) (i j : Int) : Option (List Int) := gd (keepB b out i j) (keepF b out i j)
theorem gKeepFor_eq {b : List (List Int)} {out : List Int} {i j : Int} (h : keepB b out i j) : gKeepFor b out i j = some (keepF b out i j) := gd_eq h
theorem plc_t {l : List Int} {n : Int} (h : 0 ≤ plc l n) : l.contains n = true := by rw [← plc_dec]; exact decide_eq_true h
theorem plc_f {l : List Int} {n : Int} (h : ¬ 0 ≤ plc l n) : l.contains n = false := by rw [← plc_dec]; exact decide_eq_false h
set_option maxHeartbeats 2000000 in
set_option maxRecDepth 100000 in
theorem spec_keepFor {Sg : FuncId → Option (List AV → Option AV)} (hS : Sound Try.prog Sg) (hc : Sg 70 = some (F2 gPlaceIn)) : ∀ a r, F4 gKeepFor a = some r → CSpec Try.prog 45 a r := by
  refine spec4 Try.func45 rfl Try.pf hS ?_
  intro b out i j r hr
  obtain ⟨⟨⟨⟨b1, b2⟩, b3⟩, i1, i2, j1, j2⟩, rfl⟩ := gd_some hr
  have bi := b3 i.toNat (by omega)
  have bj := b3 j.toNat (by omega)
  repeat' (first | with_reducible refine RegQ.intro (by kernel_rfl) ?_ | ((with_reducible refine condQ_dec (fun hp => ?_) (fun hp => ?_)) <;> try simp only [hp]) | with_reducible refine condQ_beq (fun hp => ?_) (fun hp => ?_) | ((with_reducible refine wantQ_dec (fun hp => ?_) (fun hp => ?_)) <;> try simp only [hp]) | with_reducible refine wantQ_beq (fun hp => ?_) (fun hp => ?_) | ((with_reducible refine condQ_split (fun hp => ?_) (fun hp => ?_)) <;> try simp only [hp]) | ((with_reducible refine wantQ_split (fun hp => ?_) (fun hp => ?_)) <;> try simp only [hp]) | simp -implicitDefEqProofs (disch := omega) only [go_sem, Nat.reduceAdd, Nat.reduceSub, reduceCtorEq, Nat.reduceLT, Nat.reduceLeDiff, Nat.reduceEqDiff, Nat.reduceMul, Int.reduceToNat, ↓reduceIte, List.take_of_length_le, evApp_n1, evApp_i0, evApp_i1, evApp_i2, evApp_i3, evApp_i4, evApp_i5, evApp_s0, evApp_s1, evApp_s2, evApp_s3, if_pos, if_neg, decide_eq_true, decide_eq_false, beq_t, beq_f, wrap_succ, wrap_in, getD_ints, getD_intss, getD_tsrs, fillA_len, fillA_at, fillA_full, Try.ntmps45, Try.results45])
  refine LoopQ.mix (fun t0 L0 nn ss => ∃ (k : Nat) (q : List Int) (c : Nat) (_ : Unit), (∃ x : Nat → AV, ss = ⟨mixL 0 (.k :: .k :: .k :: .k :: .k :: .k :: .k :: .k :: .k :: .v (.sl 0 c 0 c c) :: .v (i64 (k : Nat)) :: .s :: .s :: .k :: .s :: .s :: .s :: .s :: .s :: .s :: .s :: .s :: .s :: .s :: .s :: .s :: .s :: .s :: .s :: .s :: .s :: .s :: .s :: .s :: .s :: .s :: .s :: .s :: .s :: .s :: .s :: .s :: .s :: .s :: .s :: .s :: .s :: .s :: .s :: .s :: .s :: .s :: .s :: .s :: .s :: .s :: .s :: .s :: .s :: .s :: .s :: .s :: .s :: .s :: .s :: .s :: .s :: .s :: .s :: .k :: []) t0 x, [⟨1, q.map fun n => .int .i64 n⟩]⟩) ∧ (k ≤ 5) ∧ (q.length = c ∧ c ≤ k) ∧ (q = (labs.take k).flatMap fun k => if keepP b out i j k then [k] else []) ∧ nn = 5 - k) ?_ ?_
  · exact ⟨_, ⟨0, [], 0, (), mixI rfl, Nat.zero_le _, ⟨rfl, Nat.zero_le _⟩, rfl, rfl⟩⟩
  · rintro I0 hI0 n s ⟨k, q, c, _, ⟨x, rfl⟩, g1, ⟨g2, g2'⟩, g3, rfl⟩
    by_cases hk : k < 5
    · have hs := labs_take (fun k => if keepP b out i j k then [k] else []) hk
      rw [← g3] at hs
      repeat' (first | with_reducible refine RegQ.intro (by kernel_rfl) ?_ | ((with_reducible refine condQ_dec (fun hp => ?_) (fun hp => ?_)) <;> try simp only [hp]) | with_reducible refine condQ_beq (fun hp => ?_) (fun hp => ?_) | ((with_reducible refine wantQ_dec (fun hp => ?_) (fun hp => ?_)) <;> try simp only [hp]) | with_reducible refine wantQ_beq (fun hp => ?_) (fun hp => ?_) | ((with_reducible refine condQ_split (fun hp => ?_) (fun hp => ?_)) <;> try simp only [hp]) | ((with_reducible refine wantQ_split (fun hp => ?_) (fun hp => ?_)) <;> try simp only [hp]) | simp -implicitDefEqProofs (disch := omega) only [go_sem, Nat.reduceAdd, Nat.reduceSub, reduceCtorEq, Nat.reduceLT, Nat.reduceLeDiff, Nat.reduceEqDiff, Nat.reduceMul, Int.reduceToNat, ↓reduceIte, List.take_of_length_le, evApp_n1, evApp_i0, evApp_i1, evApp_i2, evApp_i3, evApp_i4, evApp_i5, evApp_s0, evApp_s1, evApp_s2, evApp_s3, if_pos, if_neg, decide_eq_true, decide_eq_false, beq_t, beq_f, wrap_succ, wrap_in, getD_ints, getD_intss, getD_tsrs, fillA_len, fillA_at, fillA_full, Try.ntmps45, Try.results45, hc, gPlaceIn_eq])
      · have hP : keepP b out i j k = false := by rw [keepP, plc_f (by omega), plc_f (by omega)]; rfl
        rw [hP] at hs
        exact ⟨5 - (k + 1), by omega, hI0 _ _ ⟨k + 1, q, c, (), mixI rfl, hk, ⟨g2, by omega⟩, by rw [hs]; simp, rfl⟩⟩
      all_goals
        have hIJ : ((b.getD i.toNat []).contains (k : Int) || (b.getD j.toNat []).contains (k : Int)) = true := by
          rw [Bool.or_eq_true]
          first | exact Or.inl (plc_t (by omega)) | exact Or.inr (plc_t (by omega))
        rw [plc_dec]
        clear hp
        refine LoopQ.mix (fun t0 L0 nn ss => ∃ (m : Nat) (nb : Bool) (_ : Unit), (∃ x : Nat → AV, ss = ⟨mixL 0 (.k :: .k :: .k :: .k :: .k :: .k :: .k :: .k :: .k :: .k :: .k :: .v (.bool nb) :: .v (i64 (m : Nat)) :: .k :: .k :: .k :: .k :: .k :: .k :: .k :: .k :: .k :: .k :: .k :: .k :: .k :: .k :: .k :: .k :: .k :: .k :: .k :: .k :: .k :: .k :: .k :: .k :: .k :: .s :: .s :: .s :: .s :: .s :: .s :: .s :: .s :: .s :: .s :: .s :: .s :: .s :: .s :: .s :: .s :: .s :: .s :: .s :: .s :: .s :: .s :: .s :: .s :: .s :: .s :: .k :: .k :: .k :: .k :: .k :: .k :: []) t0 x, L0⟩) ∧ (m ≤ b.length) ∧ (nb = (out.contains (k : Int) || othN b i j k m)) ∧ nn = b.length - m) ?_ ?_
        · exact ⟨_, ⟨0, out.contains (k : Int), (), mixI rfl, Nat.zero_le _, by simp [othN], rfl⟩⟩
        · rintro I1 hI1 n s ⟨m, nb, _, ⟨x, rfl⟩, m1, m2, rfl⟩
          by_cases hm : m < b.length
          · have bm := b3 m hm
            repeat' (first | with_reducible refine RegQ.intro (by kernel_rfl) ?_ | ((with_reducible refine condQ_dec (fun hp => ?_) (fun hp => ?_)) <;> try simp only [hp]) | with_reducible refine condQ_beq (fun hp => ?_) (fun hp => ?_) | ((with_reducible refine wantQ_dec (fun hp => ?_) (fun hp => ?_)) <;> try simp only [hp]) | with_reducible refine wantQ_beq (fun hp => ?_) (fun hp => ?_) | ((with_reducible refine condQ_split (fun hp => ?_) (fun hp => ?_)) <;> try simp only [hp]) | ((with_reducible refine wantQ_split (fun hp => ?_) (fun hp => ?_)) <;> try simp only [hp]) | simp -implicitDefEqProofs (disch := omega) only [go_sem, Nat.reduceAdd, Nat.reduceSub, reduceCtorEq, Nat.reduceLT, Nat.reduceLeDiff, Nat.reduceEqDiff, Nat.reduceMul, Int.reduceToNat, ↓reduceIte, List.take_of_length_le, evApp_n1, evApp_i0, evApp_i1, evApp_i2, evApp_i3, evApp_i4, evApp_i5, evApp_s0, evApp_s1, evApp_s2, evApp_s3, if_pos, if_neg, decide_eq_true, decide_eq_false, beq_t, beq_f, wrap_succ, wrap_in, getD_ints, getD_intss, getD_tsrs, fillA_len, fillA_at, fillA_full, Try.ntmps45, Try.results45, hc, gPlaceIn_eq])
            · simp only [hp, Bool.true_eq] at m2
              exact ⟨b.length - (m + 1), by omega, hI1 _ _ ⟨m + 1, true, (), mixI rfl, hm, by rw [othN, ← Bool.or_assoc, m2, Bool.true_or], rfl⟩⟩
            · have hn : nb = false := by assumption
              rw [hn] at m2
              exact ⟨b.length - (m + 1), by omega, hI1 _ _ ⟨m + 1, false, (), mixI rfl, hm, by rw [othN, ← Bool.or_assoc, ← m2]; simp [hp], rfl⟩⟩
            · have hn : nb = false := by assumption
              rw [hn] at m2
              exact ⟨b.length - (m + 1), by omega, hI1 _ _ ⟨m + 1, false, (), mixI rfl, hm, by rw [othN, ← Bool.or_assoc, ← m2]; simp [hp], rfl⟩⟩
            · have hn : nb = false := by assumption
              have hi : ¬ (m : Int) = i := by assumption
              rw [hn] at m2
              rw [plc_dec]
              exact ⟨b.length - (m + 1), by omega, hI1 _ _ ⟨m + 1, _, (), mixI rfl, hm, by rw [othN, ← Bool.or_assoc, ← m2]; simp [hp, hi], rfl⟩⟩
          · obtain rfl : m = b.length := by omega
            have hP : keepP b out i j k = nb := by rw [keepP, hIJ, m2, Bool.true_and]
            rw [hP] at hs
            repeat' (first | with_reducible refine RegQ.intro (by kernel_rfl) ?_ | ((with_reducible refine condQ_dec (fun hp => ?_) (fun hp => ?_)) <;> try simp only [hp]) | with_reducible refine condQ_beq (fun hp => ?_) (fun hp => ?_) | ((with_reducible refine wantQ_dec (fun hp => ?_) (fun hp => ?_)) <;> try simp only [hp]) | with_reducible refine wantQ_beq (fun hp => ?_) (fun hp => ?_) | ((with_reducible refine condQ_split (fun hp => ?_) (fun hp => ?_)) <;> try simp only [hp]) | ((with_reducible refine wantQ_split (fun hp => ?_) (fun hp => ?_)) <;> try simp only [hp]) | simp -implicitDefEqProofs (disch := omega) only [go_sem, Nat.reduceAdd, Nat.reduceSub, reduceCtorEq, Nat.reduceLT, Nat.reduceLeDiff, Nat.reduceEqDiff, Nat.reduceMul, Int.reduceToNat, ↓reduceIte, List.take_of_length_le, evApp_n1, evApp_i0, evApp_i1, evApp_i2, evApp_i3, evApp_i4, evApp_i5, evApp_s0, evApp_s1, evApp_s2, evApp_s3, if_pos, if_neg, decide_eq_true, decide_eq_false, beq_t, beq_f, wrap_succ, wrap_in, getD_ints, getD_intss, getD_tsrs, fillA_len, fillA_at, fillA_full, Try.ntmps45, Try.results45, hc, gPlaceIn_eq])
            · rw [hp] at hs
              exact ⟨5 - (k + 1), by omega, hI0 _ _ ⟨k + 1, q ++ [(k : Int)], c + 1, (), mixI rfl, hk, ⟨by simp [g2], by omega⟩, by rw [hs]; simp, rfl⟩⟩
            · rw [hp] at hs
              exact ⟨5 - (k + 1), by omega, hI0 _ _ ⟨k + 1, q, c, (), mixI rfl, hk, ⟨g2, by omega⟩, by rw [hs]; simp, rfl⟩⟩
    · obtain rfl : k = 5 := by omega
      repeat' (first | with_reducible refine RegQ.intro (by kernel_rfl) ?_ | ((with_reducible refine condQ_dec (fun hp => ?_) (fun hp => ?_)) <;> try simp only [hp]) | with_reducible refine condQ_beq (fun hp => ?_) (fun hp => ?_) | ((with_reducible refine wantQ_dec (fun hp => ?_) (fun hp => ?_)) <;> try simp only [hp]) | with_reducible refine wantQ_beq (fun hp => ?_) (fun hp => ?_) | ((with_reducible refine condQ_split (fun hp => ?_) (fun hp => ?_)) <;> try simp only [hp]) | ((with_reducible refine wantQ_split (fun hp => ?_) (fun hp => ?_)) <;> try simp only [hp]) | simp -implicitDefEqProofs (disch := omega) only [go_sem, Nat.reduceAdd, Nat.reduceSub, reduceCtorEq, Nat.reduceLT, Nat.reduceLeDiff, Nat.reduceEqDiff, Nat.reduceMul, Int.reduceToNat, ↓reduceIte, List.take_of_length_le, evApp_n1, evApp_i0, evApp_i1, evApp_i2, evApp_i3, evApp_i4, evApp_i5, evApp_s0, evApp_s1, evApp_s2, evApp_s3, if_pos, if_neg, decide_eq_true, decide_eq_false, beq_t, beq_f, wrap_succ, wrap_in, getD_ints, getD_intss, getD_tsrs, fillA_len, fillA_at, fillA_full, Try.ntmps45, Try.results45])
      rw [g3]; rfl

/-- the extents of the labels of the first contraction, and of the second -/
def costA (e : List Int) (b : List (List Int)) (i j k : Int) : Int := if ((b.getD i.toNat []).contains k || (b.getD j.toNat []).contains k) = true then e.getD k.toNat 0 else -1
def costR (e : List Int) (b : List (List Int)) (out : List Int) (i j k : Int) : Int := if (othN b i j k b.length || (keepF b out i j).contains k) = true then e.getD k.toNat 0 else -1
def costS (e : List Int) (b : List (List Int)) (out : List Int) (i j : Int) : Int :=
  IntKind.i64.wrap (prodW ((labs.map (costA e b i j)).map pos1) + prodW ((labs.map (costR e b out i j)).map pos1))
def gCostBy (e : List Int) (b : List (List Int)) (out : List Int) (i j : Int) : Option Int := gd (e.length = 5 ∧ keepB b out i j) (costS e b out i j)
theorem gCostBy_eq {e : List Int} {b : List (List Int)} {out : List Int} {i j : Int} (h : e.length = 5 ∧ keepB b out i j) : gCostBy e b out i j = some (costS e b out i j) := gd_eq h
theorem labs_map (f : Int → Int) {k : Nat} (h : k < 5) : (labs.take (k + 1)).map f = (labs.take k).map f ++ [f (k : Nat)] := by
  match k, h with
  | 0, _ => rfl
  | 1, _ => rfl
  | 2, _ => rfl
  | 3, _ => rfl
  | 4, _ => rfl
theorem keepF_len (b : List (List Int)) (out : List Int) (i j : Int) : (keepF b out i j).length ≤ 5 := by
  unfold keepF labs
  simp only [List.flatMap_cons, List.flatMap_nil, List.length_append]
  have h : ∀ (c : Bool) (k : Int), (if c = true then [k] else []).length ≤ 1 := by intro c k; cases c <;> simp
  have h0 := h (keepP b out i j 0) 0
  have h1 := h (keepP b out i j 1) 1
  have h2 := h (keepP b out i j 2) 2
  have h3 := h (keepP b out i j 3) 3
  have h4 := h (keepP b out i j 4) 4
  simp only [List.length_nil]
  omega
set_option maxHeartbeats 2000000 in
set_option maxRecDepth 100000 in
theorem spec_costBySpec {Sg : FuncId → Option (List AV → Option AV)} (hS : Sound Try.prog Sg) (hc : Sg 70 = some (F2 gPlaceIn)) (hk : Sg 45 = some (F4 gKeepFor)) (hs : Sg 83 = some (F1 gSpace)) : ∀ a r, F5 gCostBy a = some r → CSpec Try.prog 59 a r := by
  refine spec5 Try.func59 rfl Try.pf hS ?_
  intro e b out i j r hr
  obtain ⟨⟨he, hb⟩, rfl⟩ := gd_some hr
  obtain ⟨⟨⟨b1, b2⟩, b3⟩, i1, i2, j1, j2⟩ := id hb
  have bi := b3 i.toNat (by omega)
  have bj := b3 j.toNat (by omega)
  have bk := keepF_len b out i j
  repeat' (first | with_reducible refine RegQ.intro (by kernel_rfl) ?_ | ((with_reducible refine condQ_dec (fun hp => ?_) (fun hp => ?_)) <;> try simp only [hp]) | with_reducible refine condQ_beq (fun hp => ?_) (fun hp => ?_) | ((with_reducible refine wantQ_dec (fun hp => ?_) (fun hp => ?_)) <;> try simp only [hp]) | with_reducible refine wantQ_beq (fun hp => ?_) (fun hp => ?_) | ((with_reducible refine condQ_split (fun hp => ?_) (fun hp => ?_)) <;> try simp only [hp]) | ((with_reducible refine wantQ_split (fun hp => ?_) (fun hp => ?_)) <;> try simp only [hp]) | simp -implicitDefEqProofs (disch := omega) only [go_sem, Nat.reduceAdd, Nat.reduceSub, reduceCtorEq, Nat.reduceLT, Nat.reduceLeDiff, Nat.reduceEqDiff, Nat.reduceMul, Int.reduceToNat, ↓reduceIte, List.take_of_length_le, evApp_n1, evApp_i0, evApp_i1, evApp_i2, evApp_i3, evApp_i4, evApp_i5, evApp_s0, evApp_s1, evApp_s2, evApp_s3, if_pos, if_neg, decide_eq_true, decide_eq_false, beq_t, beq_f, wrap_succ, wrap_in, getD_ints, getD_intss, getD_tsrs, fillA_len, fillA_at, fillA_full, Try.ntmps59, Try.results59, hk, gKeepFor_eq hb])
  refine LoopQ.mix (fun t0 L0 nn ss => ∃ (k : Nat) (p q : List Int) (_ : Unit), (∃ x : Nat → AV, ss = ⟨mixL 0 (.k :: .k :: .k :: .k :: .k :: .k :: .k :: .k :: .k :: .k :: .k :: .v (.sl 0 k 0 k k) :: .v (.sl 1 k 0 k k) :: .k :: .v (i64 (k : Nat)) :: .s :: .s :: .s :: .k :: .k :: .k :: .k :: .k :: .k :: .k :: .k :: .k :: .k :: .k :: .s :: .s :: .s :: .s :: .s :: .s :: .s :: .s :: .s :: .s :: .s :: .s :: .s :: .s :: .s :: .s :: .s :: .s :: .s :: .s :: .s :: .s :: .s :: .s :: .s :: .s :: .s :: .s :: .s :: .s :: .s :: .s :: .s :: .s :: .s :: .s :: .s :: .s :: .s :: .s :: .s :: .s :: .s :: .s :: .s :: .s :: .s :: .s :: .s :: .s :: .s :: .s :: .s :: .s :: .s :: .s :: .s :: .s :: .s :: .s :: .s :: .s :: .s :: .s :: .s :: .k :: .k :: .k :: .k :: .k :: .k :: .k :: .k :: .k :: .k :: .k :: .k :: .k :: []) t0 x, [⟨1, p.map fun n => .int .i64 n⟩, ⟨1, q.map fun n => .int .i64 n⟩]⟩) ∧ (k ≤ 5) ∧ (p.length = k ∧ q.length = k) ∧ (p = (labs.take k).map (costA e b i j)) ∧ (q = (labs.take k).map (costR e b out i j)) ∧ nn = 5 - k) ?_ ?_
  · exact ⟨_, ⟨0, [], [], (), mixI rfl, Nat.zero_le _, ⟨rfl, rfl⟩, rfl, rfl, rfl⟩⟩
  · rintro I0 hI0 n s ⟨k, p, q, _, ⟨x, rfl⟩, g1, ⟨g2, g2'⟩, g3, g4, rfl⟩
    by_cases hk5 : k < 5
    · have hA := labs_map (costA e b i j) hk5
      have hR := labs_map (costR e b out i j) hk5
      rw [← g3] at hA
      rw [← g4] at hR
      repeat' (first | with_reducible refine RegQ.intro (by kernel_rfl) ?_ | ((with_reducible refine condQ_dec (fun hp => ?_) (fun hp => ?_)) <;> try simp only [hp]) | with_reducible refine condQ_beq (fun hp => ?_) (fun hp => ?_) | ((with_reducible refine wantQ_dec (fun hp => ?_) (fun hp => ?_)) <;> try simp only [hp]) | with_reducible refine wantQ_beq (fun hp => ?_) (fun hp => ?_) | ((with_reducible refine condQ_split (fun hp => ?_) (fun hp => ?_)) <;> try simp only [hp]) | ((with_reducible refine wantQ_split (fun hp => ?_) (fun hp => ?_)) <;> try simp only [hp]) | simp -implicitDefEqProofs (disch := omega) only [go_sem, Nat.reduceAdd, Nat.reduceSub, reduceCtorEq, Nat.reduceLT, Nat.reduceLeDiff, Nat.reduceEqDiff, Nat.reduceMul, Int.reduceToNat, ↓reduceIte, List.take_of_length_le, evApp_n1, evApp_i0, evApp_i1, evApp_i2, evApp_i3, evApp_i4, evApp_i5, evApp_s0, evApp_s1, evApp_s2, evApp_s3, if_pos, if_neg, decide_eq_true, decide_eq_false, beq_t, beq_f, wrap_succ, wrap_in, getD_ints, getD_intss, getD_tsrs, fillA_len, fillA_at, fillA_full, Try.ntmps59, Try.results59, hc, gPlaceIn_eq])
      all_goals
        have hcA : costA e b i j (k : Nat) = (if ((b.getD i.toNat []).contains (k : Int) || (b.getD j.toNat []).contains (k : Int)) = true then e.getD k 0 else -1) := by rw [costA, Int.toNat_natCast]
        first
          | rw [if_pos (by rw [Bool.or_eq_true]; first | exact Or.inl (plc_t (by omega)) | exact Or.inr (plc_t (by omega)))] at hcA
          | rw [if_neg (by rw [plc_f (by omega), plc_f (by omega)]; simp)] at hcA
        clear hp
        refine LoopQ.mix (fun t0 L0 nn ss => ∃ (m : Nat) (v : Int) (_ : Unit), (∃ x : Nat → AV, ss = ⟨mixL 0 (.k :: .k :: .k :: .k :: .k :: .k :: .k :: .k :: .k :: .k :: .k :: .k :: .k :: .k :: .k :: .k :: .v (i64 v) :: .v (i64 (m : Nat)) :: .k :: .k :: .k :: .k :: .k :: .k :: .k :: .k :: .k :: .k :: .k :: .k :: .k :: .k :: .k :: .k :: .k :: .k :: .k :: .k :: .k :: .k :: .k :: .k :: .k :: .k :: .k :: .k :: .k :: .k :: .k :: .k :: .k :: .k :: .k :: .s :: .s :: .s :: .s :: .s :: .s :: .s :: .s :: .s :: .s :: .s :: .s :: .s :: .s :: .s :: .s :: .s :: .s :: .s :: .s :: .s :: .s :: .s :: .s :: .s :: .s :: .s :: .s :: .s :: .s :: .s :: .s :: .s :: .k :: .k :: .k :: .k :: .k :: .k :: .k :: .k :: .k :: .k :: .k :: .k :: .k :: .k :: .k :: .k :: .k :: .k :: .k :: .k :: .k :: []) t0 x, L0⟩) ∧ (m ≤ b.length) ∧ (v = if (othN b i j k m || (decide (0 < m) && (keepF b out i j).contains (k : Int))) = true then e.getD k 0 else -1) ∧ nn = b.length - m) ?_ ?_
        · exact ⟨_, ⟨0, -1, (), mixI rfl, Nat.zero_le _, by simp [othN], rfl⟩⟩
        · rintro I1 hI1 n s ⟨m, v, _, ⟨x, rfl⟩, m1, m2, rfl⟩
          by_cases hm : m < b.length
          · have bm := b3 m hm
            repeat' (first | with_reducible refine RegQ.intro (by kernel_rfl) ?_ | ((with_reducible refine condQ_dec (fun hp => ?_) (fun hp => ?_)) <;> try simp only [hp]) | with_reducible refine condQ_beq (fun hp => ?_) (fun hp => ?_) | ((with_reducible refine wantQ_dec (fun hp => ?_) (fun hp => ?_)) <;> try simp only [hp]) | with_reducible refine wantQ_beq (fun hp => ?_) (fun hp => ?_) | ((with_reducible refine condQ_split (fun hp => ?_) (fun hp => ?_)) <;> try simp only [hp]) | ((with_reducible refine wantQ_split (fun hp => ?_) (fun hp => ?_)) <;> try simp only [hp]) | simp -implicitDefEqProofs (disch := omega) only [go_sem, Nat.reduceAdd, Nat.reduceSub, reduceCtorEq, Nat.reduceLT, Nat.reduceLeDiff, Nat.reduceEqDiff, Nat.reduceMul, Int.reduceToNat, ↓reduceIte, List.take_of_length_le, evApp_n1, evApp_i0, evApp_i1, evApp_i2, evApp_i3, evApp_i4, evApp_i5, evApp_s0, evApp_s1, evApp_s2, evApp_s3, if_pos, if_neg, decide_eq_true, decide_eq_false, beq_t, beq_f, wrap_succ, wrap_in, getD_ints, getD_intss, getD_tsrs, fillA_len, fillA_at, fillA_full, Try.ntmps59, Try.results59, hc, gPlaceIn_eq])
            all_goals
              refine ⟨b.length - (m + 1), by omega, hI1 _ _ ⟨m + 1, _, (), mixI rfl, hm, ?_, rfl⟩⟩
              clear hI1 hI0
              first
                | (rw [plc_t (l := keepF b out i j)]; simp; assumption)
                | (rw [othN, plc_t (l := b.getD m [])]; simp [*]; assumption)
                | (rw [m2, othN, plc_f (l := keepF b out i j)]; simp [*]; assumption)
                | (rw [m2, othN, plc_f (l := keepF b out i j), plc_f (l := b.getD m [])]; simp; assumption; assumption)
          · obtain rfl : m = b.length := by omega
            rw [decide_eq_true (show 0 < b.length by omega), Bool.true_and] at m2
            have hcR : costR e b out i j (k : Nat) = v := by rw [costR, Int.toNat_natCast, m2]
            repeat' (first | with_reducible refine RegQ.intro (by kernel_rfl) ?_ | ((with_reducible refine condQ_dec (fun hp => ?_) (fun hp => ?_)) <;> try simp only [hp]) | with_reducible refine condQ_beq (fun hp => ?_) (fun hp => ?_) | ((with_reducible refine wantQ_dec (fun hp => ?_) (fun hp => ?_)) <;> try simp only [hp]) | with_reducible refine wantQ_beq (fun hp => ?_) (fun hp => ?_) | ((with_reducible refine condQ_split (fun hp => ?_) (fun hp => ?_)) <;> try simp only [hp]) | ((with_reducible refine wantQ_split (fun hp => ?_) (fun hp => ?_)) <;> try simp only [hp]) | simp -implicitDefEqProofs (disch := omega) only [go_sem, Nat.reduceAdd, Nat.reduceSub, reduceCtorEq, Nat.reduceLT, Nat.reduceLeDiff, Nat.reduceEqDiff, Nat.reduceMul, Int.reduceToNat, ↓reduceIte, List.take_of_length_le, evApp_n1, evApp_i0, evApp_i1, evApp_i2, evApp_i3, evApp_i4, evApp_i5, evApp_s0, evApp_s1, evApp_s2, evApp_s3, if_pos, if_neg, decide_eq_true, decide_eq_false, beq_t, beq_f, wrap_succ, wrap_in, getD_ints, getD_intss, getD_tsrs, fillA_len, fillA_at, fillA_full, Try.ntmps59, Try.results59, hc, gPlaceIn_eq])
            rw [hcA] at hA
            rw [hcR] at hR
            exact ⟨5 - (k + 1), by omega, hI0 _ _ ⟨k + 1, _, _, (), mixI rfl, hk5, ⟨by simp; omega, by simp; omega⟩, hA.symm, hR.symm, rfl⟩⟩
    · obtain rfl : k = 5 := by omega
      repeat' (first | with_reducible refine RegQ.intro (by kernel_rfl) ?_ | ((with_reducible refine condQ_dec (fun hp => ?_) (fun hp => ?_)) <;> try simp only [hp]) | with_reducible refine condQ_beq (fun hp => ?_) (fun hp => ?_) | ((with_reducible refine wantQ_dec (fun hp => ?_) (fun hp => ?_)) <;> try simp only [hp]) | with_reducible refine wantQ_beq (fun hp => ?_) (fun hp => ?_) | ((with_reducible refine condQ_split (fun hp => ?_) (fun hp => ?_)) <;> try simp only [hp]) | ((with_reducible refine wantQ_split (fun hp => ?_) (fun hp => ?_)) <;> try simp only [hp]) | simp -implicitDefEqProofs (disch := omega) only [go_sem, Nat.reduceAdd, Nat.reduceSub, reduceCtorEq, Nat.reduceLT, Nat.reduceLeDiff, Nat.reduceEqDiff, Nat.reduceMul, Int.reduceToNat, ↓reduceIte, List.take_of_length_le, evApp_n1, evApp_i0, evApp_i1, evApp_i2, evApp_i3, evApp_i4, evApp_i5, evApp_s0, evApp_s1, evApp_s2, evApp_s3, if_pos, if_neg, decide_eq_true, decide_eq_false, beq_t, beq_f, wrap_succ, wrap_in, getD_ints, getD_intss, getD_tsrs, fillA_len, fillA_at, fillA_full, Try.ntmps59, Try.results59, hs, gSpace_eq])
      rw [g3, g4]; rfl
end Go.Proofs.Ytfjhhbpipococaa
