/- Contracts of functions that the laws of this seat call. -/
import Derived.Test.YtfjhhbpipococaaGe
set_option linter.all false
namespace Go.Proofs.Ytfjhhbpipococaa
open Go Go.Ev Go.RowKit Go.Ev.Enc Go.Pl

def insF (l : List Int) (a : Nat) (x : Int) : List Int := l.take a ++ [x] ++ l.drop a
theorem insF_len {l : List Int} {a : Nat} {x : Int} (h : a ≤ l.length) : (insF l a x).length = l.length + 1 := by simp [insF]; omega
theorem can_insert : CanCall Try.prog 81 := ⟨_, Try.func81, rfl, rfl⟩
theorem app_ints (p q : List Int) (sz : Nat) : (p.map fun n => AV.int .i64 n) ++ (q.map fun n => AV.int .i64 n) = (p ++ q).map fun n => AV.int .i64 n := by rw [List.map_append]
set_option maxHeartbeats 4000000 in
set_option maxRecDepth 100000 in
theorem o_insert {Sg : FuncId → Option (List AV → Option AV)} (hS : Sound Try.prog Sg) (l : List Int) (a : Nat) (x : Int) (h : l.length ≤ 1048576) (ha : a ≤ l.length) : OSpec Try.prog 81 [ints 0 l, i64 (a : Nat), i64 x] (fun n => .sl n (l.length + 1) 0 (l.length + 1) (l.length + 1)) (fun _ => [⟨1, (insF l a x).map fun n => .int .i64 n⟩]) := by
  refine OSpec.intro Try.func81 rfl (vc3_sound Try.pf hS hS _ _ _ ?_)
  have ha' : ((a : Nat) : Int) ≤ (l.length : Int) := by omega
  have h1 : (l.take a).length = a := by rw [List.length_take]; omega
  have h2 : (l.drop a).length = l.length - a := by simp
  have e1 : evApp [⟨1, []⟩] (.sl 0 0 0 0 0) ((l.take a).map fun n => .int .i64 n) 1 8 = some (.sl 0 a 0 a a, [⟨1, (l.take a).map fun n => .int .i64 n⟩]) := by
    have := evApp_gen (L := [⟨1, []⟩]) (b := 0) (n := 0) (sz := 1) (by' := 8) (q := []) (new := (l.take a).map fun n => .int .i64 n) rfl rfl (by rw [List.length_map, h1]; omega) (by rw [List.length_map, h1]; omega)
    rw [this, List.length_map, h1, Nat.zero_add]; rfl
  have e2 : evApp [⟨1, (l.take a).map fun n => .int .i64 n⟩] (.sl 0 a 0 a a) [.int .i64 x] 1 8 = some (.sl 0 (a + 1) 0 (a + 1) (a + 1), [⟨1, (l.take a ++ [x]).map fun n => .int .i64 n⟩]) :=
    evApp_int (L := [⟨1, (l.take a).map fun n => .int .i64 n⟩]) (b := 0) rfl h1 (by omega) (by omega)
  have e3 : evApp [⟨1, (l.take a ++ [x]).map fun n => .int .i64 n⟩] (.sl 0 (a + 1) 0 (a + 1) (a + 1)) ((l.drop a).map fun n => .int .i64 n) 1 8 = some (.sl 0 (l.length + 1) 0 (l.length + 1) (l.length + 1), [⟨1, (insF l a x).map fun n => .int .i64 n⟩]) := by
    have := evApp_gen (L := [⟨1, (l.take a ++ [x]).map fun n => .int .i64 n⟩]) (b := 0) (n := a + 1) (sz := 1) (by' := 8) (q := (l.take a ++ [x]).map fun n => .int .i64 n) (new := (l.drop a).map fun n => .int .i64 n) rfl (by simp; omega) (by rw [List.length_map, h2]; omega) (by rw [List.length_map, h2]; omega)
    rw [this, List.length_map, h2, show a + 1 + (l.length - a) = l.length + 1 by omega, ← List.map_append]; rfl
  repeat' (first | with_reducible refine RegQ.intro (by kernel_rfl) ?_ | ((with_reducible refine condQ_dec (fun hp => ?_) (fun hp => ?_)) <;> try simp only [hp]) | with_reducible refine condQ_beq (fun hp => ?_) (fun hp => ?_) | ((with_reducible refine wantQ_dec (fun hp => ?_) (fun hp => ?_)) <;> try simp only [hp]) | with_reducible refine wantQ_beq (fun hp => ?_) (fun hp => ?_) | ((with_reducible refine condQ_split (fun hp => ?_) (fun hp => ?_)) <;> try simp only [hp]) | ((with_reducible refine wantQ_split (fun hp => ?_) (fun hp => ?_)) <;> try simp only [hp]) | simp -implicitDefEqProofs (disch := omega) only [go_sem, Nat.reduceAdd, Nat.reduceSub, reduceCtorEq, Nat.reduceLT, Nat.reduceLeDiff, Nat.reduceEqDiff, Nat.reduceMul, Int.reduceToNat, ↓reduceIte, List.take_of_length_le, evApp_n1, evApp_i0, evApp_i1, evApp_i2, evApp_i3, evApp_i4, evApp_i5, evApp_s0, evApp_s1, evApp_s2, evApp_s3, if_pos, if_neg, decide_eq_true, decide_eq_false, beq_t, beq_f, wrap_succ, wrap_in, getD_ints, getD_intss, getD_tsrs, fillA_len, fillA_at, fillA_full, evApp_z0, evApp_z1, evApp_z2, evApp_z3, evApp_i6, List.getElem?_set_self, List.set_set, Try.ntmps81, Try.results81, ha', h1, h2])
  refine DrawQ.any [([1, 2, 3, 8, 9, 10, 5, 6, 0], 4), ([], 7), ([], 11)] [12] [5, 6, 8, 9, 10] (by kernel_rfl) ?_
  repeat' (first | with_reducible refine RegQ.intro (by kernel_rfl) ?_ | ((with_reducible refine condQ_dec (fun hp => ?_) (fun hp => ?_)) <;> try simp only [hp]) | with_reducible refine condQ_beq (fun hp => ?_) (fun hp => ?_) | ((with_reducible refine wantQ_dec (fun hp => ?_) (fun hp => ?_)) <;> try simp only [hp]) | with_reducible refine wantQ_beq (fun hp => ?_) (fun hp => ?_) | ((with_reducible refine condQ_split (fun hp => ?_) (fun hp => ?_)) <;> try simp only [hp]) | ((with_reducible refine wantQ_split (fun hp => ?_) (fun hp => ?_)) <;> try simp only [hp]) | simp -implicitDefEqProofs (disch := omega) only [go_sem, Nat.reduceAdd, Nat.reduceSub, reduceCtorEq, Nat.reduceLT, Nat.reduceLeDiff, Nat.reduceEqDiff, Nat.reduceMul, Int.reduceToNat, ↓reduceIte, List.take_of_length_le, evApp_n1, evApp_i0, evApp_i1, evApp_i2, evApp_i3, evApp_i4, evApp_i5, evApp_s0, evApp_s1, evApp_s2, evApp_s3, if_pos, if_neg, decide_eq_true, decide_eq_false, beq_t, beq_f, wrap_succ, wrap_in, getD_ints, getD_intss, getD_tsrs, fillA_len, fillA_at, fillA_full, evApp_z0, evApp_z1, evApp_z2, evApp_z3, evApp_i6, List.getElem?_set_self, List.set_set, Try.ntmps81, Try.results81, ha', h1, h2, e1, e2, e3])
  exact ⟨[0], by simp, by simp, fun _ => rfl, fun _ => by simp only [List.map, List.getD_cons_zero, renB_ints]⟩
end Go.Proofs.Ytfjhhbpipococaa
