/- Contracts of functions that the laws of this seat call. -/
import Derived.Test.YtfjhhbpipococaaFz
import Derived.Test.YtfjhhbpipococaaEvC
set_option linter.all false
namespace Go.Proofs.Ytfjhhbpipococaa
open Go Go.Ev Go.RowKit Go.Ev.Enc Go.Pl

/-! ### lists of tensors in blocks of their own -/
def refsT : Nat → List Tsr → List AV
  | _, [] => []
  | c, x :: r => tsrA c (c + 1) x :: refsT (c + 2) r
def innT : List Tsr → List Blk
  | [] => []
  | x :: r => ⟨1, x.sh.map fun n => .int .i64 n⟩ :: ⟨1, x.vl.map fun n => .int .i64 n⟩ :: innT r
theorem refsT_len : ∀ (c : Nat) (l : List Tsr), (refsT c l).length = l.length
  | _, [] => rfl
  | c, x :: r => by rw [refsT, List.length_cons, List.length_cons, refsT_len]
theorem innT_len : ∀ (l : List Tsr), (innT l).length = 2 * l.length
  | [] => rfl
  | x :: r => by rw [innT, List.length_cons, List.length_cons, List.length_cons, innT_len]; omega
theorem refsT_snoc (x : Tsr) : ∀ (c : Nat) (l : List Tsr), refsT c (l ++ [x]) = refsT c l ++ [tsrA (c + 2 * l.length) (c + 2 * l.length + 1) x]
  | c, [] => rfl
  | c, y :: r => by
    rw [List.cons_append, refsT, refsT, refsT_snoc x (c + 2) r, List.cons_append, List.length_cons]
    have : c + 2 + 2 * r.length = c + 2 * (r.length + 1) := by omega
    rw [this]
theorem innT_snoc (x : Tsr) : ∀ (l : List Tsr), innT (l ++ [x]) = innT l ++ [⟨1, x.sh.map fun n => .int .i64 n⟩, ⟨1, x.vl.map fun n => .int .i64 n⟩]
  | [] => rfl
  | y :: r => by rw [List.cons_append, innT, innT, innT_snoc x r]; rfl
/-- the elements while they are filled -/
def filT (l : List Tsr) (i : Nat) : List AV := refsT 1 (l.take i) ++ List.replicate (l.length - i) (.agg [.nilS, .nilS])
theorem filT_len {l : List Tsr} {i : Nat} (h : i ≤ l.length) : (filT l i).length = l.length := by
  simp [filT, refsT_len]; omega
theorem take_snocT {l : List Tsr} {i : Nat} (h : i < l.length) : l.take (i + 1) = l.take i ++ [l.getD i ⟨[], []⟩] := by
  rw [List.take_succ_eq_append_getElem h]; simp [h]
theorem filT_at {l : List Tsr} {i : Nat} (h : i < l.length) : (filT l i).getD i .any = .agg [.nilS, .nilS] := by
  unfold filT
  have h1 : (refsT 1 (l.take i)).length = i := by rw [refsT_len, List.length_take]; omega
  rw [List.getD_eq_getElem?_getD, List.getElem?_append_right (by omega), h1, Nat.sub_self, List.getElem?_replicate, if_pos (by omega)]; rfl
theorem filT_set {l : List Tsr} {i : Nat} (h : i < l.length) : (filT l i).set i (tsrA (2 * i + 1) (2 * i + 1 + 1) (l.getD i ⟨[], []⟩)) = filT l (i + 1) := by
  unfold filT
  have h1 : (refsT 1 (l.take i)).length = i := by rw [refsT_len, List.length_take]; omega
  rw [List.set_append_right _ _ (by omega), h1, Nat.sub_self, show l.length - i = (l.length - (i + 1)) + 1 by omega, List.replicate_succ, List.set_cons_zero, take_snocT h, refsT_snoc, List.append_assoc, List.length_take, Nat.min_eq_left (by omega)]
  rw [show 1 + 2 * i = 2 * i + 1 by omega]; rfl
theorem filT_full (l : List Tsr) : filT l l.length = refsT 1 l := by simp [filT]
theorem innT_take {l : List Tsr} {i : Nat} (h : i < l.length) : innT (l.take i) ++ [⟨1, (l.getD i ⟨[], []⟩).sh.map fun n => .int .i64 n⟩, ⟨1, (l.getD i ⟨[], []⟩).vl.map fun n => .int .i64 n⟩] = innT (l.take (i + 1)) := by
  rw [take_snocT h, innT_snoc]
theorem innT_tl {l : List Tsr} {i : Nat} (h : i ≤ l.length) : (innT (l.take i)).length = 2 * i := by rw [innT_len, List.length_take]; omega
theorem gOf_range {m n b : Nat} (h : b < m) : gOf (List.range m) n b = some (n + b) := by
  unfold gOf
  cases hx : (List.range m).idxOf? b with
  | none => exact absurd (List.mem_range.2 h) (by simpa using hx)
  | some j =>
    have := idxOf?_some hx
    rw [List.getElem?_range (by have := (List.getElem?_eq_some_iff.1 this).1; simpa using this)] at this
    simp at this
    simp [this]
theorem map_range_getD (L : List Blk) (f : Blk → Blk) : (List.range L.length).map (fun b => f (L.getD b ⟨0, []⟩)) = L.map f := by
  apply List.ext_getElem
  · simp
  · intro i h1 h2
    simp at h1
    simp [h1]
theorem ren_refsT {g : Nat → Option Nat} {n : Nat} : ∀ (c : Nat) (l : List Tsr), (∀ k, k < c + 2 * l.length → g k = some (n + k)) → (refsT c l).map (expE (renC g)) = refsT (n + c) l
  | c, [], _ => rfl
  | c, x :: r, h => by
    rw [refsT, List.map_cons, refsT]
    have h0 := h c (by simp)
    have h1 := h (c + 1) (by simp; omega)
    rw [ren_refsT (n := n) (c + 2) r (fun k hk => h k (by simp; omega))]
    simp only [expE, tsrA, List.map_cons, List.map_nil, renC, h0, h1]
    rfl
theorem ren_innT (g : Nat → Option Nat) : ∀ l : List Tsr, (innT l).map (renB g) = innT l
  | [] => rfl
  | x :: r => by rw [innT, List.map_cons, List.map_cons, renB_ints, renB_ints, ren_innT g r]
set_option maxHeartbeats 4000000 in
set_option maxRecDepth 100000 in
theorem o_toTensorS {Sg : FuncId → Option (List AV → Option AV)} (hS : Sound Try.prog Sg) (hc : Sg 47 = none) (l : List Tsr) (hl : l.length ≤ 1048576) (hb : ∀ k, k < l.length → (l.getD k ⟨[], []⟩).sh.length ≤ 1048576 ∧ (l.getD k ⟨[], []⟩).vl.length ≤ 1048576) (oT : OToT) : OSpec Try.prog 11 [.ds 0 (l.map fun x => .agg [ints 0 x.sh, ints 0 x.vl])] (fun n => .sl n l.length 0 l.length l.length) (fun n => ⟨2, refsT (n + 1) l⟩ :: innT l) := by
  refine OSpec.intro Try.func11 rfl (vc3_sound Try.pf hS hS _ _ _ ?_)
  repeat' (first | with_reducible refine RegQ.intro (by kernel_rfl) ?_ | with_reducible refine DrawQ.nat (by kernel_rfl) ?_ | ((with_reducible refine condQ_dec (fun hp => ?_) (fun hp => ?_)) <;> try simp only [hp]) | with_reducible refine condQ_beq (fun hp => ?_) (fun hp => ?_) | ((with_reducible refine wantQ_dec (fun hp => ?_) (fun hp => ?_)) <;> try simp only [hp]) | with_reducible refine wantQ_beq (fun hp => ?_) (fun hp => ?_) | ((with_reducible refine condQ_split (fun hp => ?_) (fun hp => ?_)) <;> try simp only [hp]) | ((with_reducible refine wantQ_split (fun hp => ?_) (fun hp => ?_)) <;> try simp only [hp]) | simp -implicitDefEqProofs (disch := omega) only [go_sem, Nat.reduceAdd, Nat.reduceSub, reduceCtorEq, Nat.reduceLT, Nat.reduceLeDiff, Nat.reduceEqDiff, Nat.reduceMul, Int.reduceToNat, ↓reduceIte, List.take_of_length_le, evApp_n1, evApp_i0, evApp_i1, evApp_i2, evApp_i3, evApp_i4, evApp_i5, evApp_s0, evApp_s1, evApp_s2, evApp_s3, if_pos, if_neg, decide_eq_true, decide_eq_false, beq_t, beq_f, wrap_succ, wrap_in, getD_ints, getD_intss, getD_tsrs, fillA_len, fillA_at, fillA_full, evApp_z0, evApp_z1, evApp_z2, evApp_z3, evApp_i6, List.getElem?_set_self, List.set_set, Try.ntmps11, Try.results11])
  refine LoopQ.mix (fun t0 L0 nn ss => ∃ (i : Nat) (_ : Unit), (∃ x : Nat → AV, ss = ⟨mixL 0 (.k :: .k :: .k :: .k :: .v (i64 (i : Nat)) :: .k :: .k :: .k :: .s :: .s :: .s :: .s :: .s :: .s :: .s :: .s :: .s :: .s :: .s :: .s :: .s :: .s :: .k :: []) t0 x, ⟨2, filT l i⟩ :: innT (l.take i)⟩) ∧ (i ≤ l.length) ∧ nn = l.length - i) ?_ ?_
  · exact ⟨_, 0, (), mixJ rfl (by simp [filT, refsT, innT]), Nat.zero_le _, rfl⟩
  · rintro I0 hI0 n s ⟨i, _, ⟨x, rfl⟩, g1, rfl⟩
    have f1 := filT_len g1
    have f2 := innT_tl g1
    by_cases hi : i < l.length
    · have f3 := filT_at hi
      have f4 := filT_set hi
      have f5 := innT_take hi
      obtain ⟨b1, b2⟩ := hb i hi
      repeat' (first | with_reducible refine RegQ.intro (by kernel_rfl) ?_ | with_reducible refine DrawQ.nat (by kernel_rfl) ?_ | ((with_reducible refine condQ_dec (fun hp => ?_) (fun hp => ?_)) <;> try simp only [hp]) | with_reducible refine condQ_beq (fun hp => ?_) (fun hp => ?_) | ((with_reducible refine wantQ_dec (fun hp => ?_) (fun hp => ?_)) <;> try simp only [hp]) | with_reducible refine wantQ_beq (fun hp => ?_) (fun hp => ?_) | ((with_reducible refine condQ_split (fun hp => ?_) (fun hp => ?_)) <;> try simp only [hp]) | ((with_reducible refine wantQ_split (fun hp => ?_) (fun hp => ?_)) <;> try simp only [hp]) | simp -implicitDefEqProofs (disch := omega) only [go_sem, Nat.reduceAdd, Nat.reduceSub, reduceCtorEq, Nat.reduceLT, Nat.reduceLeDiff, Nat.reduceEqDiff, Nat.reduceMul, Int.reduceToNat, ↓reduceIte, List.take_of_length_le, evApp_n1, evApp_i0, evApp_i1, evApp_i2, evApp_i3, evApp_i4, evApp_i5, evApp_s0, evApp_s1, evApp_s2, evApp_s3, if_pos, if_neg, decide_eq_true, decide_eq_false, beq_t, beq_f, wrap_succ, wrap_in, getD_ints, getD_intss, getD_tsrs, fillA_len, fillA_at, fillA_full, evApp_z0, evApp_z1, evApp_z2, evApp_z3, evApp_i6, List.getElem?_set_self, List.set_set, Try.ntmps11, Try.results11, hc, opQ_none, f1, f2, getD_tsrs])
      refine InlK_intro rfl rfl can_toT ((oT (l.getD i ⟨[], []⟩) ⟨b1, b2⟩).call (by simp only [go_sem, ints]) ?_)
      repeat' (first | with_reducible refine RegQ.intro (by kernel_rfl) ?_ | with_reducible refine DrawQ.nat (by kernel_rfl) ?_ | ((with_reducible refine condQ_dec (fun hp => ?_) (fun hp => ?_)) <;> try simp only [hp]) | with_reducible refine condQ_beq (fun hp => ?_) (fun hp => ?_) | ((with_reducible refine wantQ_dec (fun hp => ?_) (fun hp => ?_)) <;> try simp only [hp]) | with_reducible refine wantQ_beq (fun hp => ?_) (fun hp => ?_) | ((with_reducible refine condQ_split (fun hp => ?_) (fun hp => ?_)) <;> try simp only [hp]) | ((with_reducible refine wantQ_split (fun hp => ?_) (fun hp => ?_)) <;> try simp only [hp]) | simp -implicitDefEqProofs (disch := omega) only [go_sem, Nat.reduceAdd, Nat.reduceSub, reduceCtorEq, Nat.reduceLT, Nat.reduceLeDiff, Nat.reduceEqDiff, Nat.reduceMul, Int.reduceToNat, ↓reduceIte, List.take_of_length_le, evApp_n1, evApp_i0, evApp_i1, evApp_i2, evApp_i3, evApp_i4, evApp_i5, evApp_s0, evApp_s1, evApp_s2, evApp_s3, if_pos, if_neg, decide_eq_true, decide_eq_false, beq_t, beq_f, wrap_succ, wrap_in, getD_ints, getD_intss, getD_tsrs, fillA_len, fillA_at, fillA_full, evApp_z0, evApp_z1, evApp_z2, evApp_z3, evApp_i6, List.getElem?_set_self, List.set_set, Try.ntmps11, Try.results11, f1, f2, f3, f4, f5])
      refine ⟨l.length - (i + 1), by omega, hI0 _ _ ⟨i + 1, (), mixJ rfl rfl, hi, rfl⟩⟩
    · obtain rfl : i = l.length := by omega
      have f6 := filT_full l
      have f7 : l.take l.length = l := List.take_length
      repeat' (first | with_reducible refine RegQ.intro (by kernel_rfl) ?_ | with_reducible refine DrawQ.nat (by kernel_rfl) ?_ | ((with_reducible refine condQ_dec (fun hp => ?_) (fun hp => ?_)) <;> try simp only [hp]) | with_reducible refine condQ_beq (fun hp => ?_) (fun hp => ?_) | ((with_reducible refine wantQ_dec (fun hp => ?_) (fun hp => ?_)) <;> try simp only [hp]) | with_reducible refine wantQ_beq (fun hp => ?_) (fun hp => ?_) | ((with_reducible refine condQ_split (fun hp => ?_) (fun hp => ?_)) <;> try simp only [hp]) | ((with_reducible refine wantQ_split (fun hp => ?_) (fun hp => ?_)) <;> try simp only [hp]) | simp -implicitDefEqProofs (disch := omega) only [go_sem, Nat.reduceAdd, Nat.reduceSub, reduceCtorEq, Nat.reduceLT, Nat.reduceLeDiff, Nat.reduceEqDiff, Nat.reduceMul, Int.reduceToNat, ↓reduceIte, List.take_of_length_le, evApp_n1, evApp_i0, evApp_i1, evApp_i2, evApp_i3, evApp_i4, evApp_i5, evApp_s0, evApp_s1, evApp_s2, evApp_s3, if_pos, if_neg, decide_eq_true, decide_eq_false, beq_t, beq_f, wrap_succ, wrap_in, getD_ints, getD_intss, getD_tsrs, fillA_len, fillA_at, fillA_full, evApp_z0, evApp_z1, evApp_z2, evApp_z3, evApp_i6, List.getElem?_set_self, List.set_set, Try.ntmps11, Try.results11, f1, f6, f7])
      have q1 := innT_len l
      refine ⟨List.range (1 + 2 * l.length), List.nodup_range, by simp [innT_len]; omega, fun n => ?_, fun n => ?_⟩
      · simp only [renV, expE, renC, gOf_range (show 0 < 1 + 2 * l.length by omega)]
        rfl
      · have q2 : (⟨2, refsT 1 l⟩ :: innT l : List Blk).length = 1 + 2 * l.length := by simp [innT_len]; omega
        rw [← q2, map_range_getD, List.map_cons, q2]
        show _ = (⟨2, (refsT 1 l).map (expE (renC (gOf (List.range (1 + 2 * l.length)) n)))⟩ : Blk) :: _
        rw [ren_refsT (n := n) 1 l (fun k hk => gOf_range hk), ren_innT]
end Go.Proofs.Ytfjhhbpipococaa
