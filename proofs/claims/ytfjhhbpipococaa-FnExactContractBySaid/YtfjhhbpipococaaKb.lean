/- Contracts of functions that the laws of this seat call. -/
import Derived.Test.YtfjhhbpipococaaKa
set_option linter.all false
namespace Go.Proofs.Ytfjhhbpipococaa
open Go Go.Ev Go.RowKit Go.Ev.Enc Go.Pl

/-! ### lists of lists of numbers in blocks of their own -/
def refsI : Nat → List (List Int) → List AV
  | _, [] => []
  | c, x :: r => .sl c x.length 0 x.length x.length :: refsI (c + 1) r
def innI : List (List Int) → List Blk
  | [] => []
  | x :: r => ⟨1, x.map fun n => .int .i64 n⟩ :: innI r
theorem refsI_len : ∀ (c : Nat) (l : List (List Int)), (refsI c l).length = l.length
  | _, [] => rfl
  | c, x :: r => by rw [refsI, List.length_cons, List.length_cons, refsI_len]
theorem innI_len : ∀ (l : List (List Int)), (innI l).length = l.length
  | [] => rfl
  | x :: r => by rw [innI, List.length_cons, List.length_cons, innI_len]
theorem refsI_snoc (x : List Int) : ∀ (c : Nat) (l : List (List Int)), refsI c (l ++ [x]) = refsI c l ++ [.sl (c + l.length) x.length 0 x.length x.length]
  | c, [] => rfl
  | c, y :: r => by
    rw [List.cons_append, refsI, refsI, refsI_snoc x (c + 1) r, List.cons_append, List.length_cons]
    have : c + 1 + r.length = c + (r.length + 1) := by omega
    rw [this]
theorem innI_snoc (x : List Int) : ∀ (l : List (List Int)), innI (l ++ [x]) = innI l ++ [⟨1, x.map fun n => .int .i64 n⟩]
  | [] => rfl
  | y :: r => by rw [List.cons_append, innI, innI, innI_snoc x r]; rfl
/-- the elements while they are filled -/
def filI (l : List (List Int)) (i : Nat) : List AV := refsI 1 (l.take i) ++ List.replicate (l.length - i) .nilS
theorem filI_len {l : List (List Int)} {i : Nat} (h : i ≤ l.length) : (filI l i).length = l.length := by
  simp [filI, refsI_len]; omega
theorem take_snocI {l : List (List Int)} {i : Nat} (h : i < l.length) : l.take (i + 1) = l.take i ++ [l.getD i []] := by
  rw [List.take_succ_eq_append_getElem h]; simp [h]
theorem filI_at {l : List (List Int)} {i : Nat} (h : i < l.length) : (filI l i).getD i .any = .nilS := by
  unfold filI
  have h1 : (refsI 1 (l.take i)).length = i := by rw [refsI_len, List.length_take]; omega
  rw [List.getD_eq_getElem?_getD, List.getElem?_append_right (by omega), h1, Nat.sub_self, List.getElem?_replicate, if_pos (by omega)]; rfl
theorem filI_set {l : List (List Int)} {i : Nat} (h : i < l.length) : (filI l i).set i (.sl (i + 1) (l.getD i []).length 0 (l.getD i []).length (l.getD i []).length) = filI l (i + 1) := by
  unfold filI
  have h1 : (refsI 1 (l.take i)).length = i := by rw [refsI_len, List.length_take]; omega
  rw [List.set_append_right _ _ (by omega), h1, Nat.sub_self, show l.length - i = (l.length - (i + 1)) + 1 by omega, List.replicate_succ, List.set_cons_zero, take_snocI h, refsI_snoc, List.append_assoc, List.length_take, Nat.min_eq_left (by omega)]
  rw [show 1 + i = i + 1 by omega]; rfl
theorem filI_full (l : List (List Int)) : filI l l.length = refsI 1 l := by simp [filI]
theorem innI_take {l : List (List Int)} {i : Nat} (h : i < l.length) : innI (l.take i) ++ [⟨1, (l.getD i []).map fun n => .int .i64 n⟩] = innI (l.take (i + 1)) := by
  rw [take_snocI h, innI_snoc]
theorem innI_tl {l : List (List Int)} {i : Nat} (h : i ≤ l.length) : (innI (l.take i)).length = i := by rw [innI_len, List.length_take]; omega
theorem ren_refsI {g : Nat → Option Nat} {n : Nat} : ∀ (c : Nat) (l : List (List Int)), (∀ k, k < c + l.length → g k = some (n + k)) → (refsI c l).map (expE (renC g)) = refsI (n + c) l
  | c, [], _ => rfl
  | c, x :: r, h => by
    rw [refsI, List.map_cons, refsI]
    have h0 := h c (by simp)
    rw [ren_refsI (n := n) (c + 1) r (fun k hk => h k (by simp; omega))]
    simp only [expE, renC, h0]
    rfl
theorem ren_innI (g : Nat → Option Nat) : ∀ l : List (List Int), (innI l).map (renB g) = innI l
  | [] => rfl
  | x :: r => by rw [innI, List.map_cons, renB_ints, ren_innI g r]
def OToI : Prop := ∀ l : List Int, l.length ≤ 1048576 → OSpec Try.prog 13 [ints 0 l] (fun n => .sl n l.length 0 l.length l.length) (fun _ => [⟨1, l.map fun n => .int .i64 n⟩])
set_option maxHeartbeats 4000000 in
set_option maxRecDepth 100000 in
theorem o_toIntSS {Sg : FuncId → Option (List AV → Option AV)} (hS : Sound Try.prog Sg) (hc : Sg 13 = none) (l : List (List Int)) (hl : l.length ≤ 1048576) (hb : ∀ k, k < l.length → (l.getD k []).length ≤ 1048576) (oI : OToI) : OSpec Try.prog 12 [.ds 0 (l.map fun r => .ds 0 (r.map fun n => .int .i64 n))] (fun n => .sl n l.length 0 l.length l.length) (fun n => ⟨1, refsI (n + 1) l⟩ :: innI l) := by
  refine OSpec.intro Try.func12 rfl (vc3_sound Try.pf hS hS _ _ _ ?_)
  repeat' (first | with_reducible refine RegQ.intro (by kernel_rfl) ?_ | with_reducible refine DrawQ.nat (by kernel_rfl) ?_ | ((with_reducible refine condQ_dec (fun hp => ?_) (fun hp => ?_)) <;> try simp only [hp]) | with_reducible refine condQ_beq (fun hp => ?_) (fun hp => ?_) | ((with_reducible refine wantQ_dec (fun hp => ?_) (fun hp => ?_)) <;> try simp only [hp]) | with_reducible refine wantQ_beq (fun hp => ?_) (fun hp => ?_) | ((with_reducible refine condQ_split (fun hp => ?_) (fun hp => ?_)) <;> try simp only [hp]) | ((with_reducible refine wantQ_split (fun hp => ?_) (fun hp => ?_)) <;> try simp only [hp]) | simp -implicitDefEqProofs (disch := omega) only [go_sem, Nat.reduceAdd, Nat.reduceSub, reduceCtorEq, Nat.reduceLT, Nat.reduceLeDiff, Nat.reduceEqDiff, Nat.reduceMul, Int.reduceToNat, ↓reduceIte, List.take_of_length_le, evApp_n1, evApp_i0, evApp_i1, evApp_i2, evApp_i3, evApp_i4, evApp_i5, evApp_s0, evApp_s1, evApp_s2, evApp_s3, if_pos, if_neg, decide_eq_true, decide_eq_false, beq_t, beq_f, wrap_succ, wrap_in, getD_ints, getD_intss, getD_tsrs, fillA_len, fillA_at, fillA_full, evApp_z0, evApp_z1, evApp_z2, evApp_z3, evApp_i6, List.getElem?_set_self, List.set_set, Try.ntmps12, Try.results12])
  refine LoopQ.mix (fun t0 L0 nn ss => ∃ (i : Nat) (_ : Unit), (∃ x : Nat → AV, ss = ⟨mixL 0 (.k :: .k :: .k :: .k :: .v (i64 (i : Nat)) :: .k :: .k :: .k :: .s :: .s :: .s :: .s :: .s :: .s :: .s :: .s :: .s :: .s :: .s :: .s :: .s :: .s :: .k :: []) t0 x, ⟨1, filI l i⟩ :: innI (l.take i)⟩) ∧ (i ≤ l.length) ∧ nn = l.length - i) ?_ ?_
  · exact ⟨_, 0, (), mixJ rfl (by simp [filI, refsI, innI]), Nat.zero_le _, rfl⟩
  · rintro I0 hI0 n s ⟨i, _, ⟨x, rfl⟩, g1, rfl⟩
    have f1 := filI_len g1
    have f2 := innI_tl g1
    by_cases hi : i < l.length
    · have f3 := filI_at hi
      have f4 := filI_set hi
      have f5 := innI_take hi
      have b1 := hb i hi
      repeat' (first | with_reducible refine RegQ.intro (by kernel_rfl) ?_ | with_reducible refine DrawQ.nat (by kernel_rfl) ?_ | ((with_reducible refine condQ_dec (fun hp => ?_) (fun hp => ?_)) <;> try simp only [hp]) | with_reducible refine condQ_beq (fun hp => ?_) (fun hp => ?_) | ((with_reducible refine wantQ_dec (fun hp => ?_) (fun hp => ?_)) <;> try simp only [hp]) | with_reducible refine wantQ_beq (fun hp => ?_) (fun hp => ?_) | ((with_reducible refine condQ_split (fun hp => ?_) (fun hp => ?_)) <;> try simp only [hp]) | ((with_reducible refine wantQ_split (fun hp => ?_) (fun hp => ?_)) <;> try simp only [hp]) | simp -implicitDefEqProofs (disch := omega) only [go_sem, Nat.reduceAdd, Nat.reduceSub, reduceCtorEq, Nat.reduceLT, Nat.reduceLeDiff, Nat.reduceEqDiff, Nat.reduceMul, Int.reduceToNat, ↓reduceIte, List.take_of_length_le, evApp_n1, evApp_i0, evApp_i1, evApp_i2, evApp_i3, evApp_i4, evApp_i5, evApp_s0, evApp_s1, evApp_s2, evApp_s3, if_pos, if_neg, decide_eq_true, decide_eq_false, beq_t, beq_f, wrap_succ, wrap_in, getD_ints, getD_intss, getD_tsrs, fillA_len, fillA_at, fillA_full, evApp_z0, evApp_z1, evApp_z2, evApp_z3, evApp_i6, List.getElem?_set_self, List.set_set, Try.ntmps12, Try.results12, hc, opQ_none, f1, f2])
      refine InlK_intro rfl rfl can_toI ((oI (l.getD i []) b1).call (by simp only [go_sem, ints]) ?_)
      repeat' (first | with_reducible refine RegQ.intro (by kernel_rfl) ?_ | with_reducible refine DrawQ.nat (by kernel_rfl) ?_ | ((with_reducible refine condQ_dec (fun hp => ?_) (fun hp => ?_)) <;> try simp only [hp]) | with_reducible refine condQ_beq (fun hp => ?_) (fun hp => ?_) | ((with_reducible refine wantQ_dec (fun hp => ?_) (fun hp => ?_)) <;> try simp only [hp]) | with_reducible refine wantQ_beq (fun hp => ?_) (fun hp => ?_) | ((with_reducible refine condQ_split (fun hp => ?_) (fun hp => ?_)) <;> try simp only [hp]) | ((with_reducible refine wantQ_split (fun hp => ?_) (fun hp => ?_)) <;> try simp only [hp]) | simp -implicitDefEqProofs (disch := omega) only [go_sem, Nat.reduceAdd, Nat.reduceSub, reduceCtorEq, Nat.reduceLT, Nat.reduceLeDiff, Nat.reduceEqDiff, Nat.reduceMul, Int.reduceToNat, ↓reduceIte, List.take_of_length_le, evApp_n1, evApp_i0, evApp_i1, evApp_i2, evApp_i3, evApp_i4, evApp_i5, evApp_s0, evApp_s1, evApp_s2, evApp_s3, if_pos, if_neg, decide_eq_true, decide_eq_false, beq_t, beq_f, wrap_succ, wrap_in, getD_ints, getD_intss, getD_tsrs, fillA_len, fillA_at, fillA_full, evApp_z0, evApp_z1, evApp_z2, evApp_z3, evApp_i6, List.getElem?_set_self, List.set_set, Try.ntmps12, Try.results12, f1, f2, f3, f4, f5])
      refine ⟨l.length - (i + 1), by omega, hI0 _ _ ⟨i + 1, (), mixJ rfl rfl, hi, rfl⟩⟩
    · obtain rfl : i = l.length := by omega
      have f6 := filI_full l
      have f7 : l.take l.length = l := List.take_length
      repeat' (first | with_reducible refine RegQ.intro (by kernel_rfl) ?_ | with_reducible refine DrawQ.nat (by kernel_rfl) ?_ | ((with_reducible refine condQ_dec (fun hp => ?_) (fun hp => ?_)) <;> try simp only [hp]) | with_reducible refine condQ_beq (fun hp => ?_) (fun hp => ?_) | ((with_reducible refine wantQ_dec (fun hp => ?_) (fun hp => ?_)) <;> try simp only [hp]) | with_reducible refine wantQ_beq (fun hp => ?_) (fun hp => ?_) | ((with_reducible refine condQ_split (fun hp => ?_) (fun hp => ?_)) <;> try simp only [hp]) | ((with_reducible refine wantQ_split (fun hp => ?_) (fun hp => ?_)) <;> try simp only [hp]) | simp -implicitDefEqProofs (disch := omega) only [go_sem, Nat.reduceAdd, Nat.reduceSub, reduceCtorEq, Nat.reduceLT, Nat.reduceLeDiff, Nat.reduceEqDiff, Nat.reduceMul, Int.reduceToNat, ↓reduceIte, List.take_of_length_le, evApp_n1, evApp_i0, evApp_i1, evApp_i2, evApp_i3, evApp_i4, evApp_i5, evApp_s0, evApp_s1, evApp_s2, evApp_s3, if_pos, if_neg, decide_eq_true, decide_eq_false, beq_t, beq_f, wrap_succ, wrap_in, getD_ints, getD_intss, getD_tsrs, fillA_len, fillA_at, fillA_full, evApp_z0, evApp_z1, evApp_z2, evApp_z3, evApp_i6, List.getElem?_set_self, List.set_set, Try.ntmps12, Try.results12, f1, f6, f7])
      refine ⟨List.range (1 + l.length), List.nodup_range, by simp [innI_len]; omega, fun n => ?_, fun n => ?_⟩
      · simp only [renV, expE, renC, gOf_range (show 0 < 1 + l.length by omega)]
        rfl
      · have q2 : (⟨1, refsI 1 l⟩ :: innI l : List Blk).length = 1 + l.length := by simp [innI_len]; omega
        rw [← q2, map_range_getD, List.map_cons, q2]
        show _ = (⟨1, (refsI 1 l).map (expE (renC (gOf (List.range (1 + l.length)) n)))⟩ : Blk) :: _
        rw [ren_refsI (n := n) 1 l (fun k hk => gOf_range hk), ren_innI]
theorem can_contrI3 : CanCall Try.prog 52 := ⟨_, Try.func52, rfl, rfl⟩
set_option maxHeartbeats 4000000 in
set_option maxRecDepth 100000 in
theorem o_ContractI {Sg : FuncId → Option (List AV → Option AV)} (hS : Sound Try.prog Sg) (hc : Sg 52 = none) (l : List Tsr) (b : List (List Int)) (out : List Int) (h1 : szOK l b) (h2 : out.length ≤ 1048576) (hs : ∀ {l b out}, szOK l b → out.length ≤ 1048576 → OSpec Try.prog 52 [.ds 0 (l.map fun x => .agg [ints 0 x.sh, ints 0 x.vl]), .ds 0 (b.map fun r => .ds 0 (r.map fun n => .int .i64 n)), ints 0 out] (oR (tsrT ((extF l b).bind (contrF l b out)))) (oN (tsrT ((extF l b).bind (contrF l b out))))) : OSpec Try.prog 26 [.ds 0 (l.map fun x => .agg [ints 0 x.sh, ints 0 x.vl]), .ds 0 (b.map fun r => .ds 0 (r.map fun n => .int .i64 n)), ints 0 out] (oR (tsrT ((extF l b).bind (contrF l b out)))) (oN (tsrT ((extF l b).bind (contrF l b out)))) := by
  refine OSpec.intro Try.func26 rfl (vc3_sound Try.pf hS hS _ _ _ ?_)
  repeat' (first | with_reducible refine RegQ.intro (by kernel_rfl) ?_ | with_reducible refine DrawQ.nat (by kernel_rfl) ?_ | ((with_reducible refine condQ_dec (fun hp => ?_) (fun hp => ?_)) <;> try simp only [hp]) | with_reducible refine condQ_beq (fun hp => ?_) (fun hp => ?_) | ((with_reducible refine wantQ_dec (fun hp => ?_) (fun hp => ?_)) <;> try simp only [hp]) | with_reducible refine wantQ_beq (fun hp => ?_) (fun hp => ?_) | ((with_reducible refine condQ_split (fun hp => ?_) (fun hp => ?_)) <;> try simp only [hp]) | ((with_reducible refine wantQ_split (fun hp => ?_) (fun hp => ?_)) <;> try simp only [hp]) | simp -implicitDefEqProofs (disch := omega) only [go_sem, Nat.reduceAdd, Nat.reduceSub, reduceCtorEq, Nat.reduceLT, Nat.reduceLeDiff, Nat.reduceEqDiff, Nat.reduceMul, Int.reduceToNat, ↓reduceIte, List.take_of_length_le, evApp_n1, evApp_i0, evApp_i1, evApp_i2, evApp_i3, evApp_i4, evApp_i5, evApp_s0, evApp_s1, evApp_s2, evApp_s3, if_pos, if_neg, decide_eq_true, decide_eq_false, beq_t, beq_f, wrap_succ, wrap_in, getD_ints, getD_intss, getD_tsrs, fillA_len, fillA_at, fillA_full, evApp_z0, evApp_z1, evApp_z2, evApp_z3, evApp_i6, List.getElem?_set_self, List.set_set, Try.ntmps26, Try.results26, hc, opQ_none])
  refine InlK_intro rfl rfl can_contrI3 ((hs h1 h2).call (by simp only [go_sem, ints]) ?_)
  generalize tsrT ((extF l b).bind (contrF l b out)) = R
  obtain ⟨⟨sh, vl⟩, o⟩ := R
  match o, sh with
  | false, _ =>
    repeat' (first | with_reducible refine RegQ.intro (by kernel_rfl) ?_ | with_reducible refine DrawQ.nat (by kernel_rfl) ?_ | ((with_reducible refine condQ_dec (fun hp => ?_) (fun hp => ?_)) <;> try simp only [hp]) | with_reducible refine condQ_beq (fun hp => ?_) (fun hp => ?_) | ((with_reducible refine wantQ_dec (fun hp => ?_) (fun hp => ?_)) <;> try simp only [hp]) | with_reducible refine wantQ_beq (fun hp => ?_) (fun hp => ?_) | ((with_reducible refine condQ_split (fun hp => ?_) (fun hp => ?_)) <;> try simp only [hp]) | ((with_reducible refine wantQ_split (fun hp => ?_) (fun hp => ?_)) <;> try simp only [hp]) | simp -implicitDefEqProofs (disch := omega) only [go_sem, Nat.reduceAdd, Nat.reduceSub, reduceCtorEq, Nat.reduceLT, Nat.reduceLeDiff, Nat.reduceEqDiff, Nat.reduceMul, Int.reduceToNat, ↓reduceIte, List.take_of_length_le, evApp_n1, evApp_i0, evApp_i1, evApp_i2, evApp_i3, evApp_i4, evApp_i5, evApp_s0, evApp_s1, evApp_s2, evApp_s3, if_pos, if_neg, decide_eq_true, decide_eq_false, beq_t, beq_f, wrap_succ, wrap_in, getD_ints, getD_intss, getD_tsrs, fillA_len, fillA_at, fillA_full, evApp_z0, evApp_z1, evApp_z2, evApp_z3, evApp_i6, List.getElem?_set_self, List.set_set, Try.ntmps26, Try.results26, oR, oN])
    exact own_bad
  | true, [] =>
    repeat' (first | with_reducible refine RegQ.intro (by kernel_rfl) ?_ | with_reducible refine DrawQ.nat (by kernel_rfl) ?_ | ((with_reducible refine condQ_dec (fun hp => ?_) (fun hp => ?_)) <;> try simp only [hp]) | with_reducible refine condQ_beq (fun hp => ?_) (fun hp => ?_) | ((with_reducible refine wantQ_dec (fun hp => ?_) (fun hp => ?_)) <;> try simp only [hp]) | with_reducible refine wantQ_beq (fun hp => ?_) (fun hp => ?_) | ((with_reducible refine condQ_split (fun hp => ?_) (fun hp => ?_)) <;> try simp only [hp]) | ((with_reducible refine wantQ_split (fun hp => ?_) (fun hp => ?_)) <;> try simp only [hp]) | simp -implicitDefEqProofs (disch := omega) only [go_sem, Nat.reduceAdd, Nat.reduceSub, reduceCtorEq, Nat.reduceLT, Nat.reduceLeDiff, Nat.reduceEqDiff, Nat.reduceMul, Int.reduceToNat, ↓reduceIte, List.take_of_length_le, evApp_n1, evApp_i0, evApp_i1, evApp_i2, evApp_i3, evApp_i4, evApp_i5, evApp_s0, evApp_s1, evApp_s2, evApp_s3, if_pos, if_neg, decide_eq_true, decide_eq_false, beq_t, beq_f, wrap_succ, wrap_in, getD_ints, getD_intss, getD_tsrs, fillA_len, fillA_at, fillA_full, evApp_z0, evApp_z1, evApp_z2, evApp_z3, evApp_i6, List.getElem?_set_self, List.set_set, Try.ntmps26, Try.results26, oR, oN])
    exact own_nil (b := 1) rfl
  | true, a :: s =>
    repeat' (first | with_reducible refine RegQ.intro (by kernel_rfl) ?_ | with_reducible refine DrawQ.nat (by kernel_rfl) ?_ | ((with_reducible refine condQ_dec (fun hp => ?_) (fun hp => ?_)) <;> try simp only [hp]) | with_reducible refine condQ_beq (fun hp => ?_) (fun hp => ?_) | ((with_reducible refine wantQ_dec (fun hp => ?_) (fun hp => ?_)) <;> try simp only [hp]) | with_reducible refine wantQ_beq (fun hp => ?_) (fun hp => ?_) | ((with_reducible refine condQ_split (fun hp => ?_) (fun hp => ?_)) <;> try simp only [hp]) | ((with_reducible refine wantQ_split (fun hp => ?_) (fun hp => ?_)) <;> try simp only [hp]) | simp -implicitDefEqProofs (disch := omega) only [go_sem, Nat.reduceAdd, Nat.reduceSub, reduceCtorEq, Nat.reduceLT, Nat.reduceLeDiff, Nat.reduceEqDiff, Nat.reduceMul, Int.reduceToNat, ↓reduceIte, List.take_of_length_le, evApp_n1, evApp_i0, evApp_i1, evApp_i2, evApp_i3, evApp_i4, evApp_i5, evApp_s0, evApp_s1, evApp_s2, evApp_s3, if_pos, if_neg, decide_eq_true, decide_eq_false, beq_t, beq_f, wrap_succ, wrap_in, getD_ints, getD_intss, getD_tsrs, fillA_len, fillA_at, fillA_full, evApp_z0, evApp_z1, evApp_z2, evApp_z3, evApp_i6, List.getElem?_set_self, List.set_set, Try.ntmps26, Try.results26, oR, oN])
    exact own_two (x := ⟨a :: s, vl⟩) (b := 1) (c := 2) rfl rfl (by decide) (by simp)
end Go.Proofs.Ytfjhhbpipococaa
