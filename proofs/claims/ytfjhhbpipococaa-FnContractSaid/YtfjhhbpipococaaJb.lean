/- Contracts of functions that the laws of this seat call. -/
import Derived.Test.YtfjhhbpipococaaJa
set_option linter.all false
namespace Go.Proofs.Ytfjhhbpipococaa
open Go Go.Ev Go.RowKit Go.Ev.Enc Go.Pl

theorem evApp_rcG {bs : List UInt8} {b n : Nat} {rL : Int → List Blk} (hC : RC bs b n rL) (p : Int) {X : List Blk} {by' k i sz : Nat} {q new : List AV} (hX : X[i]? = some ⟨sz, q⟩) (hk : q.length = k) (h1 : (k + new.length) * by' ≤ 140737488355328) (h2 : k + new.length ≤ 9223372036854775807) :
    evApp (rL p ++ X) (.sl (n + i) k 0 k k) new sz by' = some (.sl (n + i) (k + new.length) 0 (k + new.length) (k + new.length), rL p ++ X.set i ⟨sz, q ++ new⟩) := by
  rw [evApp_gen (q := q) (by rw [hC.at', hX]) hk h1 h2, hC.sat']
def refsF : Nat → List (List Int) → List AV
  | _, [] => []
  | c, l :: r => .sl c l.length 0 l.length l.length :: refsF (c + 1) r
theorem refsF_snoc (q : List Int) : ∀ (c : Nat) (ls : List (List Int)), refsF c (ls ++ [q]) = refsF c ls ++ [.sl (c + ls.length) q.length 0 q.length q.length]
  | c, [] => rfl
  | c, l :: r => by
    rw [List.cons_append, refsF, refsF, refsF_snoc q (c + 1) r, List.cons_append, List.length_cons]
    congr 3
    congr 1
    omega
theorem refsF_len : ∀ (c : Nat) (ls : List (List Int)), (refsF c ls).length = ls.length
  | _, [] => rfl
  | c, l :: r => by rw [refsF, List.length_cons, List.length_cons, refsF_len]
/-- the blocks of the tensors, of the labels, of all labels, and of each list of labels -/
def pX (n : Nat) (xs : List Tsr) (ls : List (List Int)) : List Blk :=
  ⟨2, xs.map tsrD⟩ :: ⟨1, refsF (n + 3) ls⟩ :: ⟨1, ls.flatten.map fun n => .int .i64 n⟩ :: ls.map fun l => ⟨1, l.map fun n => .int .i64 n⟩
theorem pX_len (n : Nat) (xs : List Tsr) (ls : List (List Int)) : (pX n xs ls).length = 3 + ls.length := by simp [pX]; omega
theorem pX_snoc (n : Nat) (xs : List Tsr) (ls : List (List Int)) (x : Tsr) (q : List Int) : pX n (xs ++ [x]) (ls ++ [q]) =
    ⟨2, xs.map tsrD ++ [tsrD x]⟩ :: ⟨1, refsF (n + 3) ls ++ [.sl (n + 3 + ls.length) q.length 0 q.length q.length]⟩ :: ⟨1, (ls.flatten ++ q).map fun n => .int .i64 n⟩ :: (ls.map (fun l => ⟨1, l.map fun n => .int .i64 n⟩) ++ [⟨1, q.map fun n => .int .i64 n⟩]) := by
  simp [pX, refsF_snoc]
theorem pX_app (n : Nat) (xs : List Tsr) (ls : List (List Int)) (k : Blk) : pX n xs ls ++ [k] = ⟨2, xs.map tsrD⟩ :: ⟨1, refsF (n + 3) ls⟩ :: ⟨1, ls.flatten.map fun n => .int .i64 n⟩ :: (ls.map (fun l => ⟨1, l.map fun n => .int .i64 n⟩) ++ [k]) := rfl
theorem rc_hide {bs : List UInt8} {b n : Nat} {rL : Int → List Blk} (hC : RC bs b n rL) (X : List Blk) {m : Nat} (hm : n + X.length = m) : ∃ rL2 : Int → List Blk, (∀ p, rL p ++ X = rL2 p) ∧ RC bs b m rL2 :=
  ⟨fun p => rL p ++ X, fun _ => rfl, hm ▸ hC.app X⟩
theorem tkn_snoc (e q : List Int) (k : Int) : tkn e (q ++ [k]) = tkn e q ++ [e.getD k.toNat 0] := by simp [tkn]
def labI (l : List Int) : Prop := l.length ≤ 3 ∧ ∀ x ∈ l, 0 ≤ x ∧ x < 5
theorem ee_5 (L : List Blk) (e : List Int) : expE (expC 0 L) (ints 2 e) = ints 0 e := by
  simp [ints, expE, expC, stepC, Function.comp_def]
theorem getD_5 {e : List Int} {k : Nat} (h : k < e.length) : (e.map fun n => AV.int .i64 n).getD k .any = .int .i64 (e.getD k 0) := getD_ints h
def InsO : Prop := ∀ (l : List Int) (a : Nat) (x : Int), l.length ≤ 1048576 → a ≤ l.length → OSpec Try.prog 81 [ints 0 l, i64 (a : Nat), i64 x] (fun n => .sl n (l.length + 1) 0 (l.length + 1) (l.length + 1)) (fun _ => [⟨1, (insF l a x).map fun n => .int .i64 n⟩])
/-- what is frozen -/
theorem fr_lab {g : Nat → Option Nat} {L : List Blk} {f : AV → AV} : ∀ (c : Nat) (ls : List (List Int)), (∀ i, i < ls.length → f (.sl (c + i) (ls.getD i []).length 0 (ls.getD i []).length (ls.getD i []).length) = ints 1 (ls.getD i [])) → (refsF c ls).map (expE f) = ls.map fun l => ints 1 l
  | c, [], _ => rfl
  | c, l :: r, h => by
    rw [refsF, List.map_cons, List.map_cons]
    have h0 := h 0 (by simp)
    simp only [List.getD_cons_zero, Nat.add_zero] at h0
    rw [show expE f (.sl c l.length 0 l.length l.length) = f (.sl c l.length 0 l.length l.length) from rfl, h0]
    rw [fr_lab (g := g) (L := L) (c + 1) r (fun i hi => by
      have := h (i + 1) (by simp; omega)
      simp only [List.getD_cons_succ] at this
      rw [show c + 1 + i = c + (i + 1) by omega]; exact this)]
theorem fr_tsrs (g : Nat → Option Nat) (L : List Blk) (f : AV → AV) (xs : List Tsr) : (xs.map tsrD).map (expE (selStep g L (selStep g L f))) = xs.map tsrD := by
  rw [List.map_map]
  apply List.map_congr_left
  intro x _
  simp [tsrD, expE, selStep, ints, Function.comp_def]
theorem fr_all {n n4 : Nat} {L : List Blk} {xs : List Tsr} {ls : List (List Int)} {q : List Int} {lx ll lq : Nat} (hx : lx = xs.length) (hl : ll = ls.length) (hq : lq = q.length) (hn4 : n ≤ n4) (b0 : L[n]? = some ⟨2, xs.map tsrD⟩) (b1 : L[n + 1]? = some ⟨1, refsF (n + 3) ls⟩) (b2 : ∀ i, i < ls.length → L[n + 3 + i]? = some ⟨1, (ls.getD i []).map fun n => .int .i64 n⟩) (b3 : L[n4]? = some ⟨1, q.map fun n => .int .i64 n⟩) :
    selV (gR n []) L (.tup [.sl n lx 0 lx lx, .sl (n + 1) ll 0 ll ll, .sl n4 lq 0 lq lq]) = .tup [.ds 1 (xs.map tsrD), .ds 1 (ls.map fun l => ints 1 l), ints 1 q] := by
  subst hx hl hq
  have g4 : gR n [] n4 = none := by unfold gR; rw [if_neg (by omega)]; rfl
  have hg : ∀ i, gR n [] (n + i) = none := fun i => gR_ge
  rw [selV_tup]
  simp only [List.map_cons, List.map_nil]
  have e1 : expE (selC (gR n []) L) (.sl n xs.length 0 xs.length xs.length) = .ds 1 (xs.map tsrD) := by
    show selStep _ _ _ (.sl n _ _ _ _) = _
    simp only [selStep, gR_n, b0, List.length_map, Nat.zero_add, Nat.le_refl, and_self, if_true, List.drop_zero]
    rw [List.take_of_length_le (by simp), fr_tsrs]
  have e2 : expE (selC (gR n []) L) (.sl (n + 1) ls.length 0 ls.length ls.length) = .ds 1 (ls.map fun l => ints 1 l) := by
    show selStep _ _ _ (.sl (n + 1) _ _ _ _) = _
    simp only [selStep, gR_ge, b1, refsF_len, Nat.zero_add, Nat.le_refl, and_self, if_true, List.drop_zero]
    rw [List.take_of_length_le (by rw [refsF_len]; exact Nat.le_refl _), fr_lab (g := gR n []) (L := L) (n + 3) ls (fun i hi => by
      have h3 : gR n [] (n + 3 + i) = none := by rw [Nat.add_assoc]; exact gR_ge
      simp [selStep, h3, b2 i hi, expE, Function.comp_def, ints, List.take_of_length_le])]
  have e3 : expE (selC (gR n []) L) (.sl n4 q.length 0 q.length q.length) = ints 1 q := selC_ints g4 b3
  rw [e1, e2, e3]
set_option maxHeartbeats 4000000 in
set_option maxRecDepth 100000 in
theorem isp_productOf {Sg : FuncId → Option (List AV → Option AV)} (hS : Sound Try.prog Sg) (h0 : Sg 77 = none) (h1 : Sg 93 = none) (h2 : Sg 57 = none) (h3 : Sg 94 = none) (h4 : Sg 80 = none) (hc : Sg 78 = some (F1 gCount)) (h5 : Sg 82 = none) (h6 : Sg 81 = none) (hk : Sg 79 = some (F2 gTakenOf)) (hl : Sg 70 = some (F2 gPlaceIn)) {bs : List UInt8} {b n : Nat} {rL : Int → List Blk} (hC : RC bs b n rL) (hb : bs.length ≤ 2000) (p : Int) (hp : 0 ≤ p ∧ p ≤ 700000000) (hcp : CopyO) (hin : InsO) (many : Nat) (hm : 1 ≤ many ∧ many ≤ 3) : ISpec Try.prog 56 [.ptr b 1 0 0, i64 (many : Nat)] (rL p) (fun r L' => ∃ (xs : List Tsr) (ls : List (List Int)) (out : List Int) (p' : Int), xs.length = many ∧ ls.length = many ∧ (∀ x ∈ xs, drB x) ∧ (∀ l ∈ ls, l.length ≤ 4) ∧ out.length ≤ 6 ∧ r = .tup [.ds 1 (xs.map tsrD), .ds 1 (ls.map fun l => ints 1 l), ints 1 out] ∧ p ≤ p' ∧ p' ≤ p + 1000 ∧ L' = rL p') := by
  refine ISpec.ret Try.func56 rfl (vc3_sound Try.pf hS hS _ _ _ ?_)
  repeat' (first | with_reducible refine RegQ.intro (by kernel_rfl) ?_ | ((with_reducible refine condQ_dec (fun hp => ?_) (fun hp => ?_)) <;> try simp only [hp]) | with_reducible refine condQ_beq (fun hp => ?_) (fun hp => ?_) | ((with_reducible refine wantQ_dec (fun hp => ?_) (fun hp => ?_)) <;> try simp only [hp]) | with_reducible refine wantQ_beq (fun hp => ?_) (fun hp => ?_) | ((with_reducible refine condQ_split (fun hp => ?_) (fun hp => ?_)) <;> try simp only [hp]) | ((with_reducible refine wantQ_split (fun hp => ?_) (fun hp => ?_)) <;> try simp only [hp]) | simp -implicitDefEqProofs (disch := omega) only [go_sem, Nat.reduceAdd, Nat.reduceSub, reduceCtorEq, Nat.reduceLT, Nat.reduceLeDiff, Nat.reduceEqDiff, Nat.reduceMul, Int.reduceToNat, ↓reduceIte, List.take_of_length_le, evApp_n1, evApp_i0, evApp_i1, evApp_i2, evApp_i3, evApp_i4, evApp_i5, evApp_s0, evApp_s1, evApp_s2, evApp_s3, if_pos, if_neg, decide_eq_true, decide_eq_false, beq_t, beq_f, wrap_succ, wrap_in, getD_ints, getD_intss, getD_tsrs, fillA_len, fillA_at, fillA_full, evApp_z0, evApp_z1, evApp_z2, evApp_z3, evApp_i6, List.getElem?_set_self, List.set_set, Try.ntmps56, Try.results56, hC.len, hC.get, hC.set, hC.get', hC.set', hC.at0, hC.at', hC.sat0, hC.sat', hC.len', hC.tk0, hC.tk1, hC.tk2, hC.tk3, hC.tk4, hC.tk5, hC.tk6, h2, opQ_none])
  refine InlK_intro rfl rfl can_one ((isp_one hS h0 hC hb p (by omega) 2 [2, 3, 1] (by decide)).mono ?_)
  rintro r L1 ⟨v1, rfl, k1, rfl⟩
  repeat' (first | with_reducible refine RegQ.intro (by kernel_rfl) ?_ | ((with_reducible refine condQ_dec (fun hp => ?_) (fun hp => ?_)) <;> try simp only [hp]) | with_reducible refine condQ_beq (fun hp => ?_) (fun hp => ?_) | ((with_reducible refine wantQ_dec (fun hp => ?_) (fun hp => ?_)) <;> try simp only [hp]) | with_reducible refine wantQ_beq (fun hp => ?_) (fun hp => ?_) | ((with_reducible refine condQ_split (fun hp => ?_) (fun hp => ?_)) <;> try simp only [hp]) | ((with_reducible refine wantQ_split (fun hp => ?_) (fun hp => ?_)) <;> try simp only [hp]) | simp -implicitDefEqProofs (disch := omega) only [go_sem, Nat.reduceAdd, Nat.reduceSub, reduceCtorEq, Nat.reduceLT, Nat.reduceLeDiff, Nat.reduceEqDiff, Nat.reduceMul, Int.reduceToNat, ↓reduceIte, List.take_of_length_le, evApp_n1, evApp_i0, evApp_i1, evApp_i2, evApp_i3, evApp_i4, evApp_i5, evApp_s0, evApp_s1, evApp_s2, evApp_s3, if_pos, if_neg, decide_eq_true, decide_eq_false, beq_t, beq_f, wrap_succ, wrap_in, getD_ints, getD_intss, getD_tsrs, fillA_len, fillA_at, fillA_full, evApp_z0, evApp_z1, evApp_z2, evApp_z3, evApp_i6, List.getElem?_set_self, List.set_set, Try.ntmps56, Try.results56, hC.len, hC.get, hC.set, hC.get', hC.set', hC.at0, hC.at', hC.sat0, hC.sat', hC.len', hC.tk0, hC.tk1, hC.tk2, hC.tk3, hC.tk4, hC.tk5, hC.tk6, h2, opQ_none])
  refine InlK_intro rfl rfl can_one ((isp_one hS h0 hC hb (p + 1) (by omega) 2 [3, 2, 4] (by decide)).mono ?_)
  rintro r L1 ⟨v2, rfl, k2, rfl⟩
  repeat' (first | with_reducible refine RegQ.intro (by kernel_rfl) ?_ | ((with_reducible refine condQ_dec (fun hp => ?_) (fun hp => ?_)) <;> try simp only [hp]) | with_reducible refine condQ_beq (fun hp => ?_) (fun hp => ?_) | ((with_reducible refine wantQ_dec (fun hp => ?_) (fun hp => ?_)) <;> try simp only [hp]) | with_reducible refine wantQ_beq (fun hp => ?_) (fun hp => ?_) | ((with_reducible refine condQ_split (fun hp => ?_) (fun hp => ?_)) <;> try simp only [hp]) | ((with_reducible refine wantQ_split (fun hp => ?_) (fun hp => ?_)) <;> try simp only [hp]) | simp -implicitDefEqProofs (disch := omega) only [go_sem, Nat.reduceAdd, Nat.reduceSub, reduceCtorEq, Nat.reduceLT, Nat.reduceLeDiff, Nat.reduceEqDiff, Nat.reduceMul, Int.reduceToNat, ↓reduceIte, List.take_of_length_le, evApp_n1, evApp_i0, evApp_i1, evApp_i2, evApp_i3, evApp_i4, evApp_i5, evApp_s0, evApp_s1, evApp_s2, evApp_s3, if_pos, if_neg, decide_eq_true, decide_eq_false, beq_t, beq_f, wrap_succ, wrap_in, getD_ints, getD_intss, getD_tsrs, fillA_len, fillA_at, fillA_full, evApp_z0, evApp_z1, evApp_z2, evApp_z3, evApp_i6, List.getElem?_set_self, List.set_set, Try.ntmps56, Try.results56, hC.len, hC.get, hC.set, hC.get', hC.set', hC.at0, hC.at', hC.sat0, hC.sat', hC.len', hC.tk0, hC.tk1, hC.tk2, hC.tk3, hC.tk4, hC.tk5, hC.tk6, h2, opQ_none])
  refine InlK_intro rfl rfl can_one ((isp_one hS h0 hC hb (p + 1 + 1) (by omega) 2 [2, 1, 0] (by decide)).mono ?_)
  rintro r L1 ⟨v3, rfl, k3, rfl⟩
  repeat' (first | with_reducible refine RegQ.intro (by kernel_rfl) ?_ | ((with_reducible refine condQ_dec (fun hp => ?_) (fun hp => ?_)) <;> try simp only [hp]) | with_reducible refine condQ_beq (fun hp => ?_) (fun hp => ?_) | ((with_reducible refine wantQ_dec (fun hp => ?_) (fun hp => ?_)) <;> try simp only [hp]) | with_reducible refine wantQ_beq (fun hp => ?_) (fun hp => ?_) | ((with_reducible refine condQ_split (fun hp => ?_) (fun hp => ?_)) <;> try simp only [hp]) | ((with_reducible refine wantQ_split (fun hp => ?_) (fun hp => ?_)) <;> try simp only [hp]) | simp -implicitDefEqProofs (disch := omega) only [go_sem, Nat.reduceAdd, Nat.reduceSub, reduceCtorEq, Nat.reduceLT, Nat.reduceLeDiff, Nat.reduceEqDiff, Nat.reduceMul, Int.reduceToNat, ↓reduceIte, List.take_of_length_le, evApp_n1, evApp_i0, evApp_i1, evApp_i2, evApp_i3, evApp_i4, evApp_i5, evApp_s0, evApp_s1, evApp_s2, evApp_s3, if_pos, if_neg, decide_eq_true, decide_eq_false, beq_t, beq_f, wrap_succ, wrap_in, getD_ints, getD_intss, getD_tsrs, fillA_len, fillA_at, fillA_full, evApp_z0, evApp_z1, evApp_z2, evApp_z3, evApp_i6, List.getElem?_set_self, List.set_set, Try.ntmps56, Try.results56, hC.len, hC.get, hC.set, hC.get', hC.set', hC.at0, hC.at', hC.sat0, hC.sat', hC.len', hC.tk0, hC.tk1, hC.tk2, hC.tk3, hC.tk4, hC.tk5, hC.tk6, h2, opQ_none])
  refine InlK_intro rfl rfl can_one ((isp_one hS h0 hC hb (p + 1 + 1 + 1) (by omega) 2 [2, 3] (by decide)).mono ?_)
  rintro r L1 ⟨v4, rfl, k4, rfl⟩
  obtain ⟨e, he⟩ : ∃ e : List Int, e = [v1, v2, v3, v4, 2] := ⟨_, rfl⟩
  have hel : e.length = 5 := by rw [he]; rfl
  have hee : ∀ k : Nat, 0 ≤ e.getD k 0 ∧ e.getD k 0 ≤ 4 := fun k => by
    simp at k1 k2 k3 k4
    rw [he]
    match k with
    | 0 => simp; omega
    | 1 => simp; omega
    | 2 => simp; omega
    | 3 => simp; omega
    | 4 => simp
    | k + 5 => simp
  repeat' (first | with_reducible refine RegQ.intro (by kernel_rfl) ?_ | ((with_reducible refine condQ_dec (fun hp => ?_) (fun hp => ?_)) <;> try simp only [hp]) | with_reducible refine condQ_beq (fun hp => ?_) (fun hp => ?_) | ((with_reducible refine wantQ_dec (fun hp => ?_) (fun hp => ?_)) <;> try simp only [hp]) | with_reducible refine wantQ_beq (fun hp => ?_) (fun hp => ?_) | ((with_reducible refine condQ_split (fun hp => ?_) (fun hp => ?_)) <;> try simp only [hp]) | ((with_reducible refine wantQ_split (fun hp => ?_) (fun hp => ?_)) <;> try simp only [hp]) | simp -implicitDefEqProofs (disch := omega) only [go_sem, Nat.reduceAdd, Nat.reduceSub, reduceCtorEq, Nat.reduceLT, Nat.reduceLeDiff, Nat.reduceEqDiff, Nat.reduceMul, Int.reduceToNat, ↓reduceIte, List.take_of_length_le, evApp_n1, evApp_i0, evApp_i1, evApp_i2, evApp_i3, evApp_i4, evApp_i5, evApp_s0, evApp_s1, evApp_s2, evApp_s3, if_pos, if_neg, decide_eq_true, decide_eq_false, beq_t, beq_f, wrap_succ, wrap_in, getD_ints, getD_intss, getD_tsrs, fillA_len, fillA_at, fillA_full, evApp_z0, evApp_z1, evApp_z2, evApp_z3, evApp_i6, List.getElem?_set_self, List.set_set, Try.ntmps56, Try.results56, hC.len, hC.get, hC.set, hC.get', hC.set', hC.at0, hC.at', hC.sat0, hC.sat', hC.len', hC.tk0, hC.tk1, hC.tk2, hC.tk3, hC.tk4, hC.tk5, hC.tk6])
  refine LoopQ.mix (fun t0 L0 nn ss => ∃ (i : Nat) (xs : List Tsr) (ls : List (List Int)) (p1 : Int) (_ : Unit), (∃ x : Nat → AV, ss = ⟨mixL 0 (.k :: .k :: .k :: .k :: .k :: .k :: .k :: .v (ints 2 e) :: .v (.sl n xs.length 0 xs.length xs.length) :: .v (.sl (n + 1) ls.length 0 ls.length ls.length) :: .v (.sl (n + 2) ls.flatten.length 0 ls.flatten.length ls.flatten.length) :: .v (i64 (i : Nat)) :: .s :: .s :: .s :: .k :: .k :: .k :: .k :: .k :: .k :: .k :: .k :: .k :: .k :: .k :: .k :: .k :: .k :: .k :: .k :: .k :: .k :: .s :: .s :: .s :: .s :: .s :: .s :: .s :: .s :: .s :: .s :: .s :: .s :: .s :: .s :: .s :: .s :: .s :: .s :: .s :: .s :: .s :: .s :: .s :: .s :: .s :: .s :: .s :: .s :: .s :: .s :: .s :: .s :: .s :: .s :: .s :: .s :: .s :: .s :: .s :: .s :: .s :: .s :: .s :: .s :: .k :: .k :: .k :: .k :: .k :: .k :: .k :: .k :: .k :: .k :: .k :: .k :: .k :: .k :: .k :: .k :: .k :: .k :: .k :: .k :: .k :: .k :: .k :: .k :: .k :: .k :: .k :: .k :: .k :: .k :: .k :: .k :: .k :: .k :: .k :: .k :: .k :: .k :: .k :: .k :: .k :: .k :: .k :: .k :: .k :: .k :: .k :: .k :: .k :: .k :: .k :: .k :: .k :: .k :: .k :: .k :: .k :: .k :: .k :: .k :: .k :: .k :: .k :: .k :: .k :: .k :: .k :: []) t0 x, rL p1 ++ pX n xs ls⟩) ∧ (i ≤ many) ∧ (xs.length = i) ∧ (ls.length = i) ∧ (∀ x ∈ xs, drB x) ∧ (∀ l ∈ ls, labI l) ∧ (p ≤ p1) ∧ (p1 ≤ p + 4 + 100 * i) ∧ nn = many - i) ?_ ?_
  · exact ⟨_, 0, [], [], p + 1 + 1 + 1 + 1, (), mixJ (by subst he; rfl) rfl, by omega, rfl, rfl, by simp, by simp, by omega, by omega, rfl⟩
  · rintro I0 hI0 mm ss ⟨i, xs, ls, p1, _, ⟨y, rfl⟩, g1, g2, g3, g4, g5, g6, g7, rfl⟩
    obtain ⟨rL2, e2, hC2⟩ := rc_hide hC (pX n xs ls) (m := n + 3 + ls.length) (by rw [pX_len]; omega)
    obtain ⟨n2, hn2⟩ : ∃ n2, n2 = n + 3 + ls.length := ⟨_, rfl⟩
    rw [← hn2] at hC2
    rw [e2]
    by_cases hi : i < many
    · have hi' : (i : Int) < (many : Int) := by omega
      repeat' (first | with_reducible refine RegQ.intro (by kernel_rfl) ?_ | ((with_reducible refine condQ_dec (fun hp => ?_) (fun hp => ?_)) <;> try simp only [hp]) | with_reducible refine condQ_beq (fun hp => ?_) (fun hp => ?_) | ((with_reducible refine wantQ_dec (fun hp => ?_) (fun hp => ?_)) <;> try simp only [hp]) | with_reducible refine wantQ_beq (fun hp => ?_) (fun hp => ?_) | ((with_reducible refine condQ_split (fun hp => ?_) (fun hp => ?_)) <;> try simp only [hp]) | ((with_reducible refine wantQ_split (fun hp => ?_) (fun hp => ?_)) <;> try simp only [hp]) | simp -implicitDefEqProofs (disch := omega) only [go_sem, Nat.reduceAdd, Nat.reduceSub, reduceCtorEq, Nat.reduceLT, Nat.reduceLeDiff, Nat.reduceEqDiff, Nat.reduceMul, Int.reduceToNat, ↓reduceIte, List.take_of_length_le, evApp_n1, evApp_i0, evApp_i1, evApp_i2, evApp_i3, evApp_i4, evApp_i5, evApp_s0, evApp_s1, evApp_s2, evApp_s3, if_pos, if_neg, decide_eq_true, decide_eq_false, beq_t, beq_f, wrap_succ, wrap_in, getD_ints, getD_intss, getD_tsrs, fillA_len, fillA_at, fillA_full, evApp_z0, evApp_z1, evApp_z2, evApp_z3, evApp_i6, List.getElem?_set_self, List.set_set, Try.ntmps56, Try.results56, hC2.len, hC2.get, hC2.set, hC2.get', hC2.set', hC2.at0, hC2.at', hC2.sat0, hC2.sat', hC2.len', hC2.tk0, hC2.tk1, hC2.tk2, hC2.tk3, hC2.tk4, hC2.tk5, hC2.tk6, hi', h2, opQ_none])
      refine InlK_intro rfl rfl can_one ((isp_one hS h0 (hC2.app [_]) hb p1 (by omega) 2 [2, 1, 2, 3, 0] (by decide)).mono ?_)
      rintro r L1 ⟨v, rfl, k5, rfl⟩
      have hv : 0 ≤ v ∧ v ≤ 3 := by simp at k5; omega
      repeat' (first | with_reducible refine RegQ.intro (by kernel_rfl) ?_ | ((with_reducible refine condQ_dec (fun hp => ?_) (fun hp => ?_)) <;> try simp only [hp]) | with_reducible refine condQ_beq (fun hp => ?_) (fun hp => ?_) | ((with_reducible refine wantQ_dec (fun hp => ?_) (fun hp => ?_)) <;> try simp only [hp]) | with_reducible refine wantQ_beq (fun hp => ?_) (fun hp => ?_) | ((with_reducible refine condQ_split (fun hp => ?_) (fun hp => ?_)) <;> try simp only [hp]) | ((with_reducible refine wantQ_split (fun hp => ?_) (fun hp => ?_)) <;> try simp only [hp]) | simp -implicitDefEqProofs (disch := omega) only [go_sem, Nat.reduceAdd, Nat.reduceSub, reduceCtorEq, Nat.reduceLT, Nat.reduceLeDiff, Nat.reduceEqDiff, Nat.reduceMul, Int.reduceToNat, ↓reduceIte, List.take_of_length_le, evApp_n1, evApp_i0, evApp_i1, evApp_i2, evApp_i3, evApp_i4, evApp_i5, evApp_s0, evApp_s1, evApp_s2, evApp_s3, if_pos, if_neg, decide_eq_true, decide_eq_false, beq_t, beq_f, wrap_succ, wrap_in, getD_ints, getD_intss, getD_tsrs, fillA_len, fillA_at, fillA_full, evApp_z0, evApp_z1, evApp_z2, evApp_z3, evApp_i6, List.getElem?_set_self, List.set_set, Try.ntmps56, Try.results56, hC2.len, hC2.get, hC2.set, hC2.get', hC2.set', hC2.at0, hC2.at', hC2.sat0, hC2.sat', hC2.len', hC2.tk0, hC2.tk1, hC2.tk2, hC2.tk3, hC2.tk4, hC2.tk5, hC2.tk6])
      refine LoopQ.mix (fun t0 L0 nn ss => ∃ (j : Nat) (q : List Int) (p2 : Int) (_ : Unit), (∃ x : Nat → AV, ss = ⟨mixL 0 (.k :: .k :: .k :: .k :: .k :: .k :: .k :: .k :: .k :: .k :: .k :: .k :: .v (.sl n2 q.length 0 q.length q.length) :: .v (i64 (j : Nat)) :: .s :: .k :: .k :: .k :: .k :: .k :: .k :: .k :: .k :: .k :: .k :: .k :: .k :: .k :: .k :: .k :: .k :: .k :: .k :: .k :: .k :: .k :: .k :: .k :: .k :: .k :: .k :: .k :: .s :: .s :: .s :: .s :: .s :: .s :: .s :: .s :: .s :: .s :: .s :: .s :: .s :: .s :: .s :: .s :: .s :: .s :: .s :: .s :: .k :: .k :: .k :: .k :: .k :: .k :: .k :: .k :: .k :: .k :: .k :: .k :: .k :: .k :: .k :: .k :: .k :: .k :: .k :: .k :: .k :: .k :: .k :: .k :: .k :: .k :: .k :: .k :: .k :: .k :: .k :: .k :: .k :: .k :: .k :: .k :: .k :: .k :: .k :: .k :: .k :: .k :: .k :: .k :: .k :: .k :: .k :: .k :: .k :: .k :: .k :: .k :: .k :: .k :: .k :: .k :: .k :: .k :: .k :: .k :: .k :: .k :: .k :: .k :: .k :: .k :: .k :: .k :: .k :: .k :: .k :: .k :: .k :: .k :: .k :: .k :: .k :: .k :: .k :: .k :: .k :: .k :: []) t0 x, rL2 p2 ++ [⟨1, q.map fun n => .int .i64 n⟩]⟩) ∧ (q.length + j ≤ 3) ∧ (∀ x ∈ q, 0 ≤ x ∧ x < 5) ∧ (0 ≤ prodW (tkn e q)) ∧ (prodW (tkn e q) ≤ 24) ∧ (p1 ≤ p2) ∧ (p2 + j ≤ p1 + 4) ∧ nn = 2 * j) ?_ ?_
      · exact ⟨_, v.toNat, [], p1 + 1, (), mixJ (by rw [show ((v.toNat : Nat) : Int) = v from by omega]; rfl) rfl, by simp; omega, by simp, (by decide : (0 : Int) ≤ prodW []), (by decide : prodW [] ≤ 24), by omega, by omega, rfl⟩
      · rintro I1 hI1 mm ss ⟨j, q, p2, _, ⟨y2, rfl⟩, f1, f2, f3, f4, f5, f6, rfl⟩
        have q1 : gTakenOf e q = some (tkn e q) := gTakenOf_eq ⟨by omega, fun d hd => by
          have hmem : q.getD d 0 ∈ q := by rw [List.getD_eq_getElem?_getD, List.getElem?_eq_getElem hd]; exact List.getElem_mem hd
          have := f2 _ hmem
          omega⟩
        have q2 := gCount_eq (l := tkn e q) (by rw [tkn_len]; omega)
        by_cases hj0 : j = 0
        · subst hj0
          repeat' (first | with_reducible refine RegQ.intro (by kernel_rfl) ?_ | ((with_reducible refine condQ_dec (fun hp => ?_) (fun hp => ?_)) <;> try simp only [hp]) | with_reducible refine condQ_beq (fun hp => ?_) (fun hp => ?_) | ((with_reducible refine wantQ_dec (fun hp => ?_) (fun hp => ?_)) <;> try simp only [hp]) | with_reducible refine wantQ_beq (fun hp => ?_) (fun hp => ?_) | ((with_reducible refine condQ_split (fun hp => ?_) (fun hp => ?_)) <;> try simp only [hp]) | ((with_reducible refine wantQ_split (fun hp => ?_) (fun hp => ?_)) <;> try simp only [hp]) | simp -implicitDefEqProofs (disch := omega) only [go_sem, Nat.reduceAdd, Nat.reduceSub, reduceCtorEq, Nat.reduceLT, Nat.reduceLeDiff, Nat.reduceEqDiff, Nat.reduceMul, Int.reduceToNat, ↓reduceIte, List.take_of_length_le, evApp_n1, evApp_i0, evApp_i1, evApp_i2, evApp_i3, evApp_i4, evApp_i5, evApp_s0, evApp_s1, evApp_s2, evApp_s3, if_pos, if_neg, decide_eq_true, decide_eq_false, beq_t, beq_f, wrap_succ, wrap_in, getD_ints, getD_intss, getD_tsrs, fillA_len, fillA_at, fillA_full, evApp_z0, evApp_z1, evApp_z2, evApp_z3, evApp_i6, List.getElem?_set_self, List.set_set, Try.ntmps56, Try.results56, hC2.len, hC2.get, hC2.set, hC2.get', hC2.set', hC2.at0, hC2.at', hC2.sat0, hC2.sat', hC2.len', hC2.tk0, hC2.tk1, hC2.tk2, hC2.tk3, hC2.tk4, hC2.tk5, hC2.tk6, h4, hk, ee_5, q1, opQ_none])
          refine InlK_intro rfl rfl can_tensorFor ((isp_tensorForD hS h0 h1 hc (hC2.app [_]) hb p2 (by omega) 1 (tkn e q) ⟨by rw [tkn_len]; omega, f3, by omega⟩ hcp).mono ?_)
          rintro r L1 ⟨x, p3, m1, m2, m3, m4, rfl, rfl⟩
          rw [← e2 p3, List.append_assoc, pX_app]
          have hq2 : ∀ (A B C : Blk), (rL p3 ++ (A :: B :: C :: (ls.map (fun l => (⟨1, l.map fun n => .int .i64 n⟩ : Blk)) ++ [⟨1, q.map fun n => .int .i64 n⟩])))[n2]? = some ⟨1, q.map fun n => .int .i64 n⟩ := fun A B C => by
            rw [hn2, Nat.add_assoc, hC.at', show 3 + ls.length = ls.length + 1 + 1 + 1 by omega]
            simp only [List.getElem?_cons_succ]
            rw [List.getElem?_append_right (by rw [List.length_map]; exact Nat.le_refl _), List.length_map, Nat.sub_self]
            rfl
          have hsn := pX_snoc n xs ls x q
          rw [← hn2] at hsn
          generalize ls.map (fun l => (⟨1, l.map fun n => .int .i64 n⟩ : Blk)) ++ [⟨1, q.map fun n => .int .i64 n⟩] = D at *
          have hA1 : ∀ (by' : Nat) (B C : Blk), by' ≤ 1000 → evApp (rL p3 ++ (⟨2, xs.map tsrD⟩ :: B :: C :: D)) (.sl n xs.length 0 xs.length xs.length) [tsrD x] 2 by' = some (.sl n (xs.length + 1) 0 (xs.length + 1) (xs.length + 1), rL p3 ++ (⟨2, xs.map tsrD ++ [tsrD x]⟩ :: B :: C :: D)) := fun by' B C hb' => by
            have hbb : (xs.length + 1) * by' ≤ (3 + 1) * 1000 := Nat.mul_le_mul (by omega) hb'
            rw [evApp_gen (q := xs.map tsrD) (by rw [hC.at0]; rfl) (List.length_map _) (by show (xs.length + 1) * by' ≤ 140737488355328; omega) (by show xs.length + 1 ≤ 9223372036854775807; omega), hC.sat0]; rfl
          have hA2 : ∀ (by' : Nat) (A C : Blk), by' ≤ 1000 → evApp (rL p3 ++ (A :: ⟨1, refsF (n + 3) ls⟩ :: C :: D)) (.sl (n + 1) ls.length 0 ls.length ls.length) [.sl n2 q.length 0 q.length q.length] 1 by' = some (.sl (n + 1) (ls.length + 1) 0 (ls.length + 1) (ls.length + 1), rL p3 ++ (A :: ⟨1, refsF (n + 3) ls ++ [.sl n2 q.length 0 q.length q.length]⟩ :: C :: D)) := fun by' A C hb' => by
            have hbb : (ls.length + 1) * by' ≤ (3 + 1) * 1000 := Nat.mul_le_mul (by omega) hb'
            rw [evApp_rcG hC p3 (i := 1) (q := refsF (n + 3) ls) rfl (refsF_len _ _) (by show (ls.length + 1) * by' ≤ 140737488355328; omega) (by show ls.length + 1 ≤ 9223372036854775807; omega)]; rfl
          have hA3 : ∀ (by' : Nat) (A B : Blk), by' ≤ 1000 → evApp (rL p3 ++ (A :: B :: ⟨1, ls.flatten.map fun n => .int .i64 n⟩ :: D)) (.sl (n + 2) ls.flatten.length 0 ls.flatten.length ls.flatten.length) (q.map fun n => .int .i64 n) 1 by' = some (.sl (n + 2) (ls.flatten.length + q.length) 0 (ls.flatten.length + q.length) (ls.flatten.length + q.length), rL p3 ++ (A :: B :: ⟨1, (ls.flatten ++ q).map fun n => .int .i64 n⟩ :: D)) := fun by' A B hb' => by
            have hfl : ls.flatten.length ≤ 9 := by
              have : ∀ (r : List (List Int)), (∀ l ∈ r, labI l) → r.flatten.length ≤ 3 * r.length := by
                intro r
                induction r with
                | nil => intro _; simp
                | cons a r ih =>
                  intro h
                  have := ih fun l hl => h l (by simp [hl])
                  have := (h a (by simp)).1
                  simp only [List.flatten_cons, List.length_append, List.length_cons]; omega
              have := this ls g5; omega
            have hbb : (ls.flatten.length + q.length) * by' ≤ (9 + 3) * 1000 := Nat.mul_le_mul (by omega) hb'
            rw [evApp_rcG hC p3 (i := 2) (q := ls.flatten.map fun n => .int .i64 n) rfl (List.length_map _) (by rw [List.length_map]; omega) (by rw [List.length_map]; omega), List.length_map, ← List.map_append]; rfl
          repeat' (first | with_reducible refine RegQ.intro (by kernel_rfl) ?_ | with_reducible refine DrawQ.nat (by kernel_rfl) ?_ | ((with_reducible refine condQ_dec (fun hp => ?_) (fun hp => ?_)) <;> try simp only [hp]) | with_reducible refine condQ_beq (fun hp => ?_) (fun hp => ?_) | ((with_reducible refine wantQ_dec (fun hp => ?_) (fun hp => ?_)) <;> try simp only [hp]) | with_reducible refine wantQ_beq (fun hp => ?_) (fun hp => ?_) | ((with_reducible refine condQ_split (fun hp => ?_) (fun hp => ?_)) <;> try simp only [hp]) | ((with_reducible refine wantQ_split (fun hp => ?_) (fun hp => ?_)) <;> try simp only [hp]) | simp -implicitDefEqProofs (disch := omega) only [go_sem, Nat.reduceAdd, Nat.reduceSub, reduceCtorEq, Nat.reduceLT, Nat.reduceLeDiff, Nat.reduceEqDiff, Nat.reduceMul, Int.reduceToNat, ↓reduceIte, List.take_of_length_le, evApp_n1, evApp_i0, evApp_i1, evApp_i2, evApp_i3, evApp_i4, evApp_i5, evApp_s0, evApp_s1, evApp_s2, evApp_s3, if_pos, if_neg, decide_eq_true, decide_eq_false, beq_t, beq_f, wrap_succ, wrap_in, getD_ints, getD_intss, getD_tsrs, fillA_len, fillA_at, fillA_full, evApp_z0, evApp_z1, evApp_z2, evApp_z3, evApp_i6, List.getElem?_set_self, List.set_set, Try.ntmps56, Try.results56, hC.len, hC.get, hC.set, hC.get', hC.set', hC.at0, hC.at', hC.sat0, hC.sat', hC.len', hC.tk0, hC.tk1, hC.tk2, hC.tk3, hC.tk4, hC.tk5, hC.tk6, hq2, hA1, hA2, hA3])
          refine ⟨many - (i + 1), by omega, hI0 _ _ ⟨i + 1, xs ++ [x], ls ++ [q], p3, (), mixJ (by rw [show (((i + 1 : Nat)) : Int) = (i : Int) + 1 from by omega]; simp only [List.length_append, List.length_cons, List.length_nil, Nat.zero_add, List.flatten_append, List.flatten_cons, List.flatten_nil, List.append_nil]; rfl) (by rw [hsn]), hi, by simp [g2], by simp [g3], fun z hz => ?_, fun z hz => ?_, by omega, by omega, rfl⟩⟩
          · rcases List.mem_append.1 hz with hz | hz
            · exact g4 z hz
            · simp at hz; subst hz
              exact ⟨by rw [m1, tkn_len]; omega, by omega⟩
          · rcases List.mem_append.1 hz with hz | hz
            · exact g5 z hz
            · simp at hz; subst hz
              exact ⟨by omega, f2⟩
        · obtain ⟨jj, rfl⟩ : ∃ jj, j = jj + 1 := ⟨j - 1, by omega⟩
          have hji : (((jj + 1 : Nat) : Int) - 1) = (jj : Int) := by omega
          repeat' (first | with_reducible refine RegQ.intro (by kernel_rfl) ?_ | ((with_reducible refine condQ_dec (fun hp => ?_) (fun hp => ?_)) <;> try simp only [hp]) | with_reducible refine condQ_beq (fun hp => ?_) (fun hp => ?_) | ((with_reducible refine wantQ_dec (fun hp => ?_) (fun hp => ?_)) <;> try simp only [hp]) | with_reducible refine wantQ_beq (fun hp => ?_) (fun hp => ?_) | ((with_reducible refine condQ_split (fun hp => ?_) (fun hp => ?_)) <;> try simp only [hp]) | ((with_reducible refine wantQ_split (fun hp => ?_) (fun hp => ?_)) <;> try simp only [hp]) | simp -implicitDefEqProofs (disch := omega) only [go_sem, Nat.reduceAdd, Nat.reduceSub, reduceCtorEq, Nat.reduceLT, Nat.reduceLeDiff, Nat.reduceEqDiff, Nat.reduceMul, Int.reduceToNat, ↓reduceIte, List.take_of_length_le, evApp_n1, evApp_i0, evApp_i1, evApp_i2, evApp_i3, evApp_i4, evApp_i5, evApp_s0, evApp_s1, evApp_s2, evApp_s3, if_pos, if_neg, decide_eq_true, decide_eq_false, beq_t, beq_f, wrap_succ, wrap_in, getD_ints, getD_intss, getD_tsrs, fillA_len, fillA_at, fillA_full, evApp_z0, evApp_z1, evApp_z2, evApp_z3, evApp_i6, List.getElem?_set_self, List.set_set, Try.ntmps56, Try.results56, hC2.len, hC2.get, hC2.set, hC2.get', hC2.set', hC2.at0, hC2.at', hC2.sat0, hC2.sat', hC2.len', hC2.tk0, hC2.tk1, hC2.tk2, hC2.tk3, hC2.tk4, hC2.tk5, hC2.tk6, h0, opQ_none])
          refine InlK_intro rfl rfl can_pick ((isp_pick hS (hC2.app [_]) hb p2 (by omega) 5 (by omega)).mono ?_)
          rintro r L1 ⟨w, rfl, w1, w2, rfl⟩
          obtain ⟨kk, rfl⟩ : ∃ kk : Nat, w = kk := ⟨w.toNat, by omega⟩
          have hkk : kk < e.length := by omega
          have hg := getD_ints hkk
          have hek := hee kk
          have b1 : 0 ≤ prodW (tkn e q) * e.getD kk 0 := Int.mul_nonneg f3 hek.1
          have b2 : prodW (tkn e q) * e.getD kk 0 ≤ 24 * 4 := Int.mul_le_mul f4 hek.2 hek.1 (by omega)
          have hw : IntKind.i64.wrap (prodW (tkn e q) * e.getD kk 0) = prodW (tkn e q) * e.getD kk 0 := wrap_in (by omega)
          have hA := evApp_rc hC2 (p2 + 1) [] (by' := 8) (k := q.length) (q := q) (x := (kk : Int)) rfl (by omega) (by omega)
          repeat' (first | with_reducible refine RegQ.intro (by kernel_rfl) ?_ | with_reducible refine DrawQ.nat (by kernel_rfl) ?_ | ((with_reducible refine condQ_dec (fun hp => ?_) (fun hp => ?_)) <;> try simp only [hp]) | with_reducible refine condQ_beq (fun hp => ?_) (fun hp => ?_) | ((with_reducible refine wantQ_dec (fun hp => ?_) (fun hp => ?_)) <;> try simp only [hp]) | with_reducible refine wantQ_beq (fun hp => ?_) (fun hp => ?_) | ((with_reducible refine condQ_split (fun hp => ?_) (fun hp => ?_)) <;> try simp only [hp]) | ((with_reducible refine wantQ_split (fun hp => ?_) (fun hp => ?_)) <;> try simp only [hp]) | simp -implicitDefEqProofs (disch := omega) only [go_sem, Nat.reduceAdd, Nat.reduceSub, reduceCtorEq, Nat.reduceLT, Nat.reduceLeDiff, Nat.reduceEqDiff, Nat.reduceMul, Int.reduceToNat, ↓reduceIte, List.take_of_length_le, evApp_n1, evApp_i0, evApp_i1, evApp_i2, evApp_i3, evApp_i4, evApp_i5, evApp_s0, evApp_s1, evApp_s2, evApp_s3, if_pos, if_neg, decide_eq_true, decide_eq_false, beq_t, beq_f, wrap_succ, wrap_in, getD_ints, getD_intss, getD_tsrs, fillA_len, fillA_at, fillA_full, evApp_z0, evApp_z1, evApp_z2, evApp_z3, evApp_i6, List.getElem?_set_self, List.set_set, Try.ntmps56, Try.results56, hC2.len, hC2.get, hC2.set, hC2.get', hC2.set', hC2.at0, hC2.at', hC2.sat0, hC2.sat', hC2.len', hC2.tk0, hC2.tk1, hC2.tk2, hC2.tk3, hC2.tk4, hC2.tk5, hC2.tk6, hk, hc, ee_5, q1, q2, hg, hw, hA])
          · have hpw : prodW (tkn e (q ++ [(kk : Int)])) = prodW (tkn e q) * e.getD kk 0 := by rw [tkn_snoc, prodW_snoc, Int.toNat_natCast, hw]
            exact ⟨2 * jj, by omega, hI1 _ _ ⟨jj, q ++ [(kk : Int)], p2 + 1, (), mixJ (by rw [hji]; simp only [List.length_append, List.length_cons, List.length_nil, Nat.zero_add]; rfl) rfl, by simp; omega, fun z hz => by
              rcases List.mem_append.1 hz with hz | hz
              · exact f2 z hz
              · simp at hz; subst hz; omega, by rw [hpw]; exact b1, by rw [hpw]; assumption, by omega, by omega, rfl⟩⟩
          · exact ⟨2 * jj, by omega, hI1 _ _ ⟨jj, q, p2 + 1, (), mixI (by rw [hji]; rfl), by omega, f2, f3, f4, by omega, by omega, rfl⟩⟩
    · obtain rfl : i = many := by omega
      have hfl : ls.flatten.length ≤ 9 := by
        have : ∀ (r : List (List Int)), (∀ l ∈ r, labI l) → r.flatten.length ≤ 3 * r.length := by
          intro r
          induction r with
          | nil => intro _; simp
          | cons a r ih =>
            intro h
            have := ih fun l hl => h l (by simp [hl])
            have := (h a (by simp)).1
            simp only [List.flatten_cons, List.length_append, List.length_cons]; omega
        have := this ls g5; omega
      repeat' (first | with_reducible refine RegQ.intro (by kernel_rfl) ?_ | with_reducible refine DrawQ.nat (by kernel_rfl) ?_ | ((with_reducible refine condQ_dec (fun hp => ?_) (fun hp => ?_)) <;> try simp only [hp]) | with_reducible refine condQ_beq (fun hp => ?_) (fun hp => ?_) | ((with_reducible refine wantQ_dec (fun hp => ?_) (fun hp => ?_)) <;> try simp only [hp]) | with_reducible refine wantQ_beq (fun hp => ?_) (fun hp => ?_) | ((with_reducible refine condQ_split (fun hp => ?_) (fun hp => ?_)) <;> try simp only [hp]) | ((with_reducible refine wantQ_split (fun hp => ?_) (fun hp => ?_)) <;> try simp only [hp]) | simp -implicitDefEqProofs (disch := omega) only [go_sem, Nat.reduceAdd, Nat.reduceSub, reduceCtorEq, Nat.reduceLT, Nat.reduceLeDiff, Nat.reduceEqDiff, Nat.reduceMul, Int.reduceToNat, ↓reduceIte, List.take_of_length_le, evApp_n1, evApp_i0, evApp_i1, evApp_i2, evApp_i3, evApp_i4, evApp_i5, evApp_s0, evApp_s1, evApp_s2, evApp_s3, if_pos, if_neg, decide_eq_true, decide_eq_false, beq_t, beq_f, wrap_succ, wrap_in, getD_ints, getD_intss, getD_tsrs, fillA_len, fillA_at, fillA_full, evApp_z0, evApp_z1, evApp_z2, evApp_z3, evApp_i6, List.getElem?_set_self, List.set_set, Try.ntmps56, Try.results56, hC2.len, hC2.get, hC2.set, hC2.get', hC2.set', hC2.at0, hC2.at', hC2.sat0, hC2.sat', hC2.len', hC2.tk0, hC2.tk1, hC2.tk2, hC2.tk3, hC2.tk4, hC2.tk5, hC2.tk6])
      refine LoopQ.mix (fun t0 L0 nn ss => ∃ (k : Nat) (J : List Blk) (q : List Int) (p2 : Int) (_ : Unit), (∃ x : Nat → AV, ss = ⟨mixL 0 (.k :: .k :: .k :: .k :: .k :: .k :: .k :: .k :: .k :: .k :: .k :: .k :: .k :: .k :: .k :: .v (.sl (n2 + J.length) q.length 0 q.length q.length) :: .v (i64 (k : Nat)) :: .k :: .k :: .k :: .k :: .k :: .k :: .k :: .k :: .k :: .k :: .k :: .k :: .k :: .k :: .k :: .k :: .k :: .k :: .k :: .k :: .k :: .k :: .k :: .k :: .k :: .k :: .k :: .k :: .k :: .k :: .k :: .k :: .k :: .k :: .k :: .k :: .k :: .k :: .k :: .k :: .k :: .k :: .k :: .k :: .k :: .k :: .k :: .k :: .k :: .k :: .k :: .k :: .k :: .k :: .k :: .k :: .k :: .k :: .k :: .k :: .k :: .s :: .s :: .s :: .s :: .s :: .s :: .s :: .s :: .s :: .s :: .s :: .s :: .s :: .s :: .s :: .s :: .s :: .s :: .s :: .s :: .s :: .s :: .s :: .s :: .s :: .s :: .s :: .s :: .s :: .s :: .s :: .s :: .s :: .s :: .s :: .s :: .s :: .s :: .k :: .k :: .k :: .k :: .k :: .k :: .k :: .k :: .k :: .k :: .k :: .k :: .k :: .k :: .k :: .k :: .k :: .k :: .k :: .k :: .k :: .k :: .k :: .k :: .k :: .k :: .k :: .k :: []) t0 x, rL2 p2 ++ (J ++ [⟨1, q.map fun n => .int .i64 n⟩])⟩) ∧ (k ≤ 5) ∧ (q.length ≤ 4) ∧ (∀ x ∈ q, 0 ≤ x ∧ x < 5) ∧ (p1 ≤ p2) ∧ (p2 ≤ p1 + 2 * k) ∧ nn = 5 - k) ?_ ?_
      · exact ⟨_, 0, [], [], p1, (), mixJ rfl rfl, by omega, by simp, by simp, by omega, by omega, rfl⟩
      · rintro I1 hI1 mm ss ⟨k, J, q, p2, _, ⟨y2, rfl⟩, f1, f2, f3, f4, f5, rfl⟩
        obtain ⟨rL4, e4, hC4⟩ := rc_hide hC2 J (m := n2 + J.length) rfl
        obtain ⟨n4, hn4⟩ : ∃ n4, n4 = n2 + J.length := ⟨_, rfl⟩
        rw [← hn4] at hC4
        by_cases hk5 : k < 5
        · have hk5' : (k : Int) < 5 := by omega
          have hkk : k < e.length := by omega
          have hg := getD_ints hkk
          have hall : ∀ (p : Int) (X : List Blk), (rL4 p ++ X)[n + 2]? = some ⟨1, ls.flatten.map fun n => .int .i64 n⟩ := fun p X => by
            rw [← e4, ← e2, List.append_assoc, List.append_assoc, hC.at']; rfl
          have q1 : gTakenOf e q = some (tkn e q) := gTakenOf_eq ⟨by omega, fun d hd => by
            have hmem : q.getD d 0 ∈ q := by rw [List.getD_eq_getElem?_getD, List.getElem?_eq_getElem hd]; exact List.getElem_mem hd
            have := f3 _ hmem
            omega⟩
          have q2 := gCount_eq (l := tkn e q) (by rw [tkn_len]; omega)
          have q3 := gPlaceIn_eq (l := ls.flatten) (by omega) (k : Int)
          rw [← List.append_assoc, e4, ← hn4]
          repeat' (first | with_reducible refine RegQ.intro (by kernel_rfl) ?_ | ((with_reducible refine condQ_dec (fun hp => ?_) (fun hp => ?_)) <;> try simp only [hp]) | with_reducible refine condQ_beq (fun hp => ?_) (fun hp => ?_) | ((with_reducible refine wantQ_dec (fun hp => ?_) (fun hp => ?_)) <;> try simp only [hp]) | with_reducible refine wantQ_beq (fun hp => ?_) (fun hp => ?_) | ((with_reducible refine condQ_split (fun hp => ?_) (fun hp => ?_)) <;> try simp only [hp]) | ((with_reducible refine wantQ_split (fun hp => ?_) (fun hp => ?_)) <;> try simp only [hp]) | simp -implicitDefEqProofs (disch := omega) only [go_sem, Nat.reduceAdd, Nat.reduceSub, reduceCtorEq, Nat.reduceLT, Nat.reduceLeDiff, Nat.reduceEqDiff, Nat.reduceMul, Int.reduceToNat, ↓reduceIte, List.take_of_length_le, evApp_n1, evApp_i0, evApp_i1, evApp_i2, evApp_i3, evApp_i4, evApp_i5, evApp_s0, evApp_s1, evApp_s2, evApp_s3, if_pos, if_neg, decide_eq_true, decide_eq_false, beq_t, beq_f, wrap_succ, wrap_in, getD_ints, getD_intss, getD_tsrs, fillA_len, fillA_at, fillA_full, evApp_z0, evApp_z1, evApp_z2, evApp_z3, evApp_i6, List.getElem?_set_self, List.set_set, Try.ntmps56, Try.results56, hC4.len, hC4.get, hC4.set, hC4.get', hC4.set', hC4.at0, hC4.at', hC4.sat0, hC4.sat', hC4.len', hC4.tk0, hC4.tk1, hC4.tk2, hC4.tk3, hC4.tk4, hC4.tk5, hC4.tk6, hk5'])
          refine DrawQ.any [([0, 1, 2, 3, 4, 5], 6)] [7, 8, 9, 10, 11, 12, 13, 14, 15, 16, 17, 18, 19, 20, 21, 22, 23, 24, 25] [] (by kernel_rfl) ?_
          have hk1 : (((k + 1 : Nat)) : Int) = (k : Int) + 1 := by omega
          repeat' (first | with_reducible refine RegQ.intro (by kernel_rfl) ?_ | ((with_reducible refine condQ_dec (fun hp => ?_) (fun hp => ?_)) <;> try simp only [hp]) | with_reducible refine condQ_beq (fun hp => ?_) (fun hp => ?_) | ((with_reducible refine wantQ_dec (fun hp => ?_) (fun hp => ?_)) <;> try simp only [hp]) | with_reducible refine wantQ_beq (fun hp => ?_) (fun hp => ?_) | ((with_reducible refine condQ_split (fun hp => ?_) (fun hp => ?_)) <;> try simp only [hp]) | ((with_reducible refine wantQ_split (fun hp => ?_) (fun hp => ?_)) <;> try simp only [hp]) | simp -implicitDefEqProofs (disch := omega) only [go_sem, Nat.reduceAdd, Nat.reduceSub, reduceCtorEq, Nat.reduceLT, Nat.reduceLeDiff, Nat.reduceEqDiff, Nat.reduceMul, Int.reduceToNat, ↓reduceIte, List.take_of_length_le, evApp_n1, evApp_i0, evApp_i1, evApp_i2, evApp_i3, evApp_i4, evApp_i5, evApp_s0, evApp_s1, evApp_s2, evApp_s3, if_pos, if_neg, decide_eq_true, decide_eq_false, beq_t, beq_f, wrap_succ, wrap_in, getD_ints, getD_intss, getD_tsrs, fillA_len, fillA_at, fillA_full, evApp_z0, evApp_z1, evApp_z2, evApp_z3, evApp_i6, List.getElem?_set_self, List.set_set, Try.ntmps56, Try.results56, hC4.len, hC4.get, hC4.set, hC4.get', hC4.set', hC4.at0, hC4.at', hC4.sat0, hC4.sat', hC4.len', hC4.tk0, hC4.tk1, hC4.tk2, hC4.tk3, hC4.tk4, hC4.tk5, hC4.tk6, hall, hl, q3, h0, opQ_none])
          rotate_left
          · exact ⟨5 - (k + 1), by omega, hI1 _ _ ⟨k + 1, J, q, p2, (), mixJ (by rw [hk1, ← hn4]; rfl) (by rw [← List.append_assoc, e4]), by omega, f2, f3, f4, by omega, rfl⟩⟩
          refine InlK_intro rfl rfl can_pick ((isp_pick hS (hC4.app [_]) hb p2 (by omega) 2 (by omega)).mono ?_)
          rintro r L1 ⟨v, rfl, w1, w2, rfl⟩
          repeat' (first | with_reducible refine RegQ.intro (by kernel_rfl) ?_ | ((with_reducible refine condQ_dec (fun hp => ?_) (fun hp => ?_)) <;> try simp only [hp]) | with_reducible refine condQ_beq (fun hp => ?_) (fun hp => ?_) | ((with_reducible refine wantQ_dec (fun hp => ?_) (fun hp => ?_)) <;> try simp only [hp]) | with_reducible refine wantQ_beq (fun hp => ?_) (fun hp => ?_) | ((with_reducible refine condQ_split (fun hp => ?_) (fun hp => ?_)) <;> try simp only [hp]) | ((with_reducible refine wantQ_split (fun hp => ?_) (fun hp => ?_)) <;> try simp only [hp]) | simp -implicitDefEqProofs (disch := omega) only [go_sem, Nat.reduceAdd, Nat.reduceSub, reduceCtorEq, Nat.reduceLT, Nat.reduceLeDiff, Nat.reduceEqDiff, Nat.reduceMul, Int.reduceToNat, ↓reduceIte, List.take_of_length_le, evApp_n1, evApp_i0, evApp_i1, evApp_i2, evApp_i3, evApp_i4, evApp_i5, evApp_s0, evApp_s1, evApp_s2, evApp_s3, if_pos, if_neg, decide_eq_true, decide_eq_false, beq_t, beq_f, wrap_succ, wrap_in, getD_ints, getD_intss, getD_tsrs, fillA_len, fillA_at, fillA_full, evApp_z0, evApp_z1, evApp_z2, evApp_z3, evApp_i6, List.getElem?_set_self, List.set_set, Try.ntmps56, Try.results56, hC4.len, hC4.get, hC4.set, hC4.get', hC4.set', hC4.at0, hC4.at', hC4.sat0, hC4.sat', hC4.len', hC4.tk0, hC4.tk1, hC4.tk2, hC4.tk3, hC4.tk4, hC4.tk5, hC4.tk6, hk, hc, ee_5, q1, q2, hg, h0, opQ_none])
          all_goals first
            | exact ⟨5 - (k + 1), by omega, hI1 _ _ ⟨k + 1, J, q, p2 + 1, (), mixJ (by rw [hk1, ← hn4]; rfl) (by rw [← List.append_assoc, e4]), by omega, f2, f3, by omega, by omega, rfl⟩⟩
            | skip
          refine InlK_intro rfl rfl can_pick ((isp_pick hS (hC4.app [_]) hb (p2 + 1) (by omega) _ (by omega)).mono ?_)
          rintro r L1 ⟨u, rfl, z1, z2, rfl⟩
          obtain ⟨a, rfl⟩ : ∃ a : Nat, u = a := ⟨u.toNat, by omega⟩
          have ha : a ≤ q.length := by omega
          have hex : exp 0 (rL4 (p2 + 1 + 1) ++ [⟨1, q.map fun n => .int .i64 n⟩]) (.sl n4 q.length 0 q.length q.length) = ints 0 q := by
            simp [exp, expE, expC, stepC, hC4.at0, List.take_of_length_le, Function.comp_def, ints]
          have hins : ∀ x ∈ insF q a (k : Int), 0 ≤ x ∧ x < 5 := fun x hx => by
            unfold insF at hx
            rcases List.mem_append.1 hx with hx | hx
            · rcases List.mem_append.1 hx with hx | hx
              · exact f3 x (List.mem_of_mem_take hx)
              · simp at hx; subst hx; omega
            · exact f3 x (List.mem_of_mem_drop hx)
          repeat' (first | with_reducible refine RegQ.intro (by kernel_rfl) ?_ | ((with_reducible refine condQ_dec (fun hp => ?_) (fun hp => ?_)) <;> try simp only [hp]) | with_reducible refine condQ_beq (fun hp => ?_) (fun hp => ?_) | ((with_reducible refine wantQ_dec (fun hp => ?_) (fun hp => ?_)) <;> try simp only [hp]) | with_reducible refine wantQ_beq (fun hp => ?_) (fun hp => ?_) | ((with_reducible refine condQ_split (fun hp => ?_) (fun hp => ?_)) <;> try simp only [hp]) | ((with_reducible refine wantQ_split (fun hp => ?_) (fun hp => ?_)) <;> try simp only [hp]) | simp -implicitDefEqProofs (disch := omega) only [go_sem, Nat.reduceAdd, Nat.reduceSub, reduceCtorEq, Nat.reduceLT, Nat.reduceLeDiff, Nat.reduceEqDiff, Nat.reduceMul, Int.reduceToNat, ↓reduceIte, List.take_of_length_le, evApp_n1, evApp_i0, evApp_i1, evApp_i2, evApp_i3, evApp_i4, evApp_i5, evApp_s0, evApp_s1, evApp_s2, evApp_s3, if_pos, if_neg, decide_eq_true, decide_eq_false, beq_t, beq_f, wrap_succ, wrap_in, getD_ints, getD_intss, getD_tsrs, fillA_len, fillA_at, fillA_full, evApp_z0, evApp_z1, evApp_z2, evApp_z3, evApp_i6, List.getElem?_set_self, List.set_set, Try.ntmps56, Try.results56, hC4.len, hC4.get, hC4.set, hC4.get', hC4.set', hC4.at0, hC4.at', hC4.sat0, hC4.sat', hC4.len', hC4.tk0, hC4.tk1, hC4.tk2, hC4.tk3, hC4.tk4, hC4.tk5, hC4.tk6, h6, opQ_none])
          refine InlK_intro rfl rfl can_insert ((hin q a (k : Int) (by omega) ha).call ?_ ?_)
          · show [exp 0 _ (.sl n4 q.length 0 q.length q.length), exp 0 _ (i64 _), exp 0 _ (i64 _)] = _
            rw [hex]; rfl
          · repeat' (first | with_reducible refine RegQ.intro (by kernel_rfl) ?_ | ((with_reducible refine condQ_dec (fun hp => ?_) (fun hp => ?_)) <;> try simp only [hp]) | with_reducible refine condQ_beq (fun hp => ?_) (fun hp => ?_) | ((with_reducible refine wantQ_dec (fun hp => ?_) (fun hp => ?_)) <;> try simp only [hp]) | with_reducible refine wantQ_beq (fun hp => ?_) (fun hp => ?_) | ((with_reducible refine condQ_split (fun hp => ?_) (fun hp => ?_)) <;> try simp only [hp]) | ((with_reducible refine wantQ_split (fun hp => ?_) (fun hp => ?_)) <;> try simp only [hp]) | simp -implicitDefEqProofs (disch := omega) only [go_sem, Nat.reduceAdd, Nat.reduceSub, reduceCtorEq, Nat.reduceLT, Nat.reduceLeDiff, Nat.reduceEqDiff, Nat.reduceMul, Int.reduceToNat, ↓reduceIte, List.take_of_length_le, evApp_n1, evApp_i0, evApp_i1, evApp_i2, evApp_i3, evApp_i4, evApp_i5, evApp_s0, evApp_s1, evApp_s2, evApp_s3, if_pos, if_neg, decide_eq_true, decide_eq_false, beq_t, beq_f, wrap_succ, wrap_in, getD_ints, getD_intss, getD_tsrs, fillA_len, fillA_at, fillA_full, evApp_z0, evApp_z1, evApp_z2, evApp_z3, evApp_i6, List.getElem?_set_self, List.set_set, Try.ntmps56, Try.results56, hC4.len, hC4.get, hC4.set, hC4.get', hC4.set', hC4.at0, hC4.at', hC4.sat0, hC4.sat', hC4.len', hC4.tk0, hC4.tk1, hC4.tk2, hC4.tk3, hC4.tk4, hC4.tk5, hC4.tk6])
            exact ⟨5 - (k + 1), by omega, hI1 _ _ ⟨k + 1, J ++ [⟨1, q.map fun n => .int .i64 n⟩], insF q a (k : Int), p2 + 1 + 1, (), mixJ (by rw [hk1, insF_len ha, List.length_append, ← Nat.add_assoc, ← hn4]; rfl) (by rw [← e4]; simp), by omega, by rw [insF_len ha]; omega, hins, by omega, by omega, rfl⟩⟩
        · obtain rfl : k = 5 := by omega
          rw [← List.append_assoc, e4, ← hn4, ← e4, ← e2, List.append_assoc, List.append_assoc]
          cases ls with
          | nil => simp at g3; omega
          | cons l0 lr =>
          have hX : pX n xs (l0 :: lr) ++ (J ++ [(⟨1, q.map fun n => .int .i64 n⟩ : Blk)]) = ⟨2, xs.map tsrD⟩ :: ⟨1, .sl (n + 3) l0.length 0 l0.length l0.length :: refsF (n + 3 + 1) lr⟩ :: ⟨1, (l0 :: lr).flatten.map fun n => .int .i64 n⟩ :: ⟨1, l0.map fun n => .int .i64 n⟩ :: (lr.map (fun l => ⟨1, l.map fun n => .int .i64 n⟩) ++ (J ++ [⟨1, q.map fun n => .int .i64 n⟩])) := rfl
          rw [hX]
          have hl0 := (g5 l0 (by simp)).1
          have hrest : ∀ l ∈ lr, l.length ≤ 4 := fun l hl => by have := (g5 l (by simp [hl])).1; omega
          have hlr : lr.length + 1 ≤ 3 := by simp at g3; omega
          have hnn : n4 = n + (3 + (1 + (lr.length + J.length))) := by rw [hn4, hn2, List.length_cons]; omega
          -- the labels of the result, at their place
          have hD : ∀ (w : List Int), ((lr.map (fun l => (⟨1, l.map fun n => .int .i64 n⟩ : Blk)) ++ (J ++ [⟨1, w.map fun n => .int .i64 n⟩])))[lr.length + J.length]? = some ⟨1, w.map fun n => .int .i64 n⟩ := fun w => by
            rw [List.getElem?_append_right (by rw [List.length_map]; omega), List.length_map, Nat.add_sub_cancel_left, List.getElem?_append_right (Nat.le_refl _), Nat.sub_self]; rfl
          have hq4 : ∀ (p : Int) (A B C E : Blk) (w : List Int), (rL p ++ (A :: B :: C :: E :: (lr.map (fun l => (⟨1, l.map fun n => .int .i64 n⟩ : Blk)) ++ (J ++ [⟨1, w.map fun n => .int .i64 n⟩]))))[n4]? = some ⟨1, w.map fun n => .int .i64 n⟩ := fun p A B C E w => by
            rw [hnn, hC.at', show 3 + (1 + (lr.length + J.length)) = lr.length + J.length + 1 + 1 + 1 + 1 by omega]
            simp only [List.getElem?_cons_succ]
            exact hD w
          have hs4 : ∀ (p : Int) (A B C E : Blk) (w w' : List Int), (rL p ++ (A :: B :: C :: E :: (lr.map (fun l => (⟨1, l.map fun n => .int .i64 n⟩ : Blk)) ++ (J ++ [⟨1, w.map fun n => .int .i64 n⟩])))).set n4 ⟨1, w'.map fun n => .int .i64 n⟩ = rL p ++ (A :: B :: C :: E :: (lr.map (fun l => (⟨1, l.map fun n => .int .i64 n⟩ : Blk)) ++ (J ++ [⟨1, w'.map fun n => .int .i64 n⟩]))) := fun p A B C E w w' => by
            rw [hnn, hC.sat', show 3 + (1 + (lr.length + J.length)) = lr.length + J.length + 1 + 1 + 1 + 1 by omega]
            simp only [List.set_cons_succ]
            rw [List.set_append_right _ _ (by rw [List.length_map]; omega), List.length_map, Nat.add_sub_cancel_left, List.set_append_right _ _ (Nat.le_refl _), Nat.sub_self]; rfl
          have hlab : ∀ (p : Int) (A B C E : Blk) (w : List Int) (i : Nat), i < lr.length → (rL p ++ (A :: B :: C :: E :: (lr.map (fun l => (⟨1, l.map fun n => .int .i64 n⟩ : Blk)) ++ (J ++ [⟨1, w.map fun n => .int .i64 n⟩]))))[n + 3 + (i + 1)]? = some ⟨1, (lr.getD i []).map fun n => .int .i64 n⟩ := fun p A B C E w i hi => by
            rw [show n + 3 + (i + 1) = n + (i + 1 + 1 + 1 + 1) by omega, hC.at']
            simp only [List.getElem?_cons_succ]
            rw [List.getElem?_append_left (by rw [List.length_map]; exact hi)]
            simp [hi]
          repeat' (first | with_reducible refine RegQ.intro (by kernel_rfl) ?_ | ((with_reducible refine condQ_dec (fun hp => ?_) (fun hp => ?_)) <;> try simp only [hp]) | with_reducible refine condQ_beq (fun hp => ?_) (fun hp => ?_) | ((with_reducible refine wantQ_dec (fun hp => ?_) (fun hp => ?_)) <;> try simp only [hp]) | with_reducible refine wantQ_beq (fun hp => ?_) (fun hp => ?_) | ((with_reducible refine condQ_split (fun hp => ?_) (fun hp => ?_)) <;> try simp only [hp]) | ((with_reducible refine wantQ_split (fun hp => ?_) (fun hp => ?_)) <;> try simp only [hp]) | simp -implicitDefEqProofs (disch := omega) only [go_sem, Nat.reduceAdd, Nat.reduceSub, reduceCtorEq, Nat.reduceLT, Nat.reduceLeDiff, Nat.reduceEqDiff, Nat.reduceMul, Int.reduceToNat, ↓reduceIte, List.take_of_length_le, evApp_n1, evApp_i0, evApp_i1, evApp_i2, evApp_i3, evApp_i4, evApp_i5, evApp_s0, evApp_s1, evApp_s2, evApp_s3, if_pos, if_neg, decide_eq_true, decide_eq_false, beq_t, beq_f, wrap_succ, wrap_in, getD_ints, getD_intss, getD_tsrs, fillA_len, fillA_at, fillA_full, evApp_z0, evApp_z1, evApp_z2, evApp_z3, evApp_i6, List.getElem?_set_self, List.set_set, Try.ntmps56, Try.results56, hC.len, hC.get, hC.set, hC.get', hC.set', hC.at0, hC.at', hC.sat0, hC.sat', hC.len', hC.tk0, hC.tk1, hC.tk2, hC.tk3, hC.tk4, hC.tk5, hC.tk6, h0, opQ_none])
          refine InlK_intro rfl rfl can_pick ((isp_pick hS (hC.app _) hb p2 (by omega) 24 (by omega)).mono ?_)
          rintro r L1 ⟨v, rfl, q1, q2, rfl⟩
          have hrl := refsF_len (n + 3 + 1) lr
          have hpos : (0 : Int) < ((lr.length + 1 : Nat) : Int) := by omega
          have hi2 : i ≤ 3 := hm.2
          cases xs with
          | nil => simp at g2; omega
          | cons x0 xr =>
          have hpos2 : (0 : Int) < ((xr.length + 1 : Nat) : Int) := by omega
          have hAl : ∀ (A B C : Blk) (D : List Blk), evApp (rL (p2 + 1) ++ (A :: B :: C :: ⟨1, l0.map fun n => .int .i64 n⟩ :: D)) (.sl (n + 3) l0.length 0 l0.length l0.length) [.int .i64 1] 1 8 = some (.sl (n + 3) (l0.length + 1) 0 (l0.length + 1) (l0.length + 1), rL (p2 + 1) ++ (A :: B :: C :: ⟨1, (l0 ++ [1]).map fun n => .int .i64 n⟩ :: D)) := fun A B C D => by
            rw [evApp_rcAt hC (p2 + 1) (i := 3) (q := l0) rfl rfl (by omega) (by omega)]; rfl
          repeat' (first | with_reducible refine RegQ.intro (by kernel_rfl) ?_ | ((with_reducible refine condQ_dec (fun hp => ?_) (fun hp => ?_)) <;> try simp only [hp]) | with_reducible refine condQ_beq (fun hp => ?_) (fun hp => ?_) | ((with_reducible refine wantQ_dec (fun hp => ?_) (fun hp => ?_)) <;> try simp only [hp]) | with_reducible refine wantQ_beq (fun hp => ?_) (fun hp => ?_) | ((with_reducible refine condQ_split (fun hp => ?_) (fun hp => ?_)) <;> try simp only [hp]) | ((with_reducible refine wantQ_split (fun hp => ?_) (fun hp => ?_)) <;> try simp only [hp]) | simp -implicitDefEqProofs (disch := omega) only [go_sem, Nat.reduceAdd, Nat.reduceSub, reduceCtorEq, Nat.reduceLT, Nat.reduceLeDiff, Nat.reduceEqDiff, Nat.reduceMul, Int.reduceToNat, ↓reduceIte, List.take_of_length_le, evApp_n1, evApp_i0, evApp_i1, evApp_i2, evApp_i3, evApp_i4, evApp_i5, evApp_s0, evApp_s1, evApp_s2, evApp_s3, if_pos, if_neg, decide_eq_true, decide_eq_false, beq_t, beq_f, wrap_succ, wrap_in, getD_ints, getD_intss, getD_tsrs, fillA_len, fillA_at, fillA_full, evApp_z0, evApp_z1, evApp_z2, evApp_z3, evApp_i6, List.getElem?_set_self, List.set_set, Try.ntmps56, Try.results56, hC.len, hC.get, hC.set, hC.get', hC.set', hC.at0, hC.at', hC.sat0, hC.sat', hC.len', hC.tk0, hC.tk1, hC.tk2, hC.tk3, hC.tk4, hC.tk5, hC.tk6, h2, h5, opQ_none, hrl, hpos, hpos2, hAl])
          · refine InlK_intro rfl rfl can_one ((isp_one hS h0 (hC.app _) hb (p2 + 1) (by omega) 2 [4, -1, 5] (by decide)).mono ?_)
            rintro r L1 ⟨u, rfl, z1, rfl⟩
            have hAq : ∀ (A B C E : Blk), evApp (rL (p2 + 1 + 1) ++ (A :: B :: C :: E :: (lr.map (fun l => (⟨1, l.map fun n => .int .i64 n⟩ : Blk)) ++ (J ++ [⟨1, q.map fun n => .int .i64 n⟩])))) (.sl n4 q.length 0 q.length q.length) [.int .i64 u] 1 8 = some (.sl n4 (q.length + 1) 0 (q.length + 1) (q.length + 1), rL (p2 + 1 + 1) ++ (A :: B :: C :: E :: (lr.map (fun l => (⟨1, l.map fun n => .int .i64 n⟩ : Blk)) ++ (J ++ [⟨1, (q ++ [u]).map fun n => .int .i64 n⟩])))) := fun A B C E => by
              rw [evApp_int (q := q) (hq4 _ _ _ _ _ _) rfl (by omega) (by omega), hs4]
            repeat' (first | with_reducible refine RegQ.intro (by kernel_rfl) ?_ | ((with_reducible refine condQ_dec (fun hp => ?_) (fun hp => ?_)) <;> try simp only [hp]) | with_reducible refine condQ_beq (fun hp => ?_) (fun hp => ?_) | ((with_reducible refine wantQ_dec (fun hp => ?_) (fun hp => ?_)) <;> try simp only [hp]) | with_reducible refine wantQ_beq (fun hp => ?_) (fun hp => ?_) | ((with_reducible refine condQ_split (fun hp => ?_) (fun hp => ?_)) <;> try simp only [hp]) | ((with_reducible refine wantQ_split (fun hp => ?_) (fun hp => ?_)) <;> try simp only [hp]) | simp -implicitDefEqProofs (disch := omega) only [go_sem, Nat.reduceAdd, Nat.reduceSub, reduceCtorEq, Nat.reduceLT, Nat.reduceLeDiff, Nat.reduceEqDiff, Nat.reduceMul, Int.reduceToNat, ↓reduceIte, List.take_of_length_le, evApp_n1, evApp_i0, evApp_i1, evApp_i2, evApp_i3, evApp_i4, evApp_i5, evApp_s0, evApp_s1, evApp_s2, evApp_s3, if_pos, if_neg, decide_eq_true, decide_eq_false, beq_t, beq_f, wrap_succ, wrap_in, getD_ints, getD_intss, getD_tsrs, fillA_len, fillA_at, fillA_full, evApp_z0, evApp_z1, evApp_z2, evApp_z3, evApp_i6, List.getElem?_set_self, List.set_set, Try.ntmps56, Try.results56, hC.len, hC.get, hC.set, hC.get', hC.set', hC.at0, hC.at', hC.sat0, hC.sat', hC.len', hC.tk0, hC.tk1, hC.tk2, hC.tk3, hC.tk4, hC.tk5, hC.tk6, hAq])
            exact hC.ret0 ⟨x0 :: xr, l0 :: lr, q ++ [u], p2 + 1 + 1, by simp at g2 ⊢; omega, by simp at g3 ⊢; omega, g4, fun l hl => by
              rcases List.mem_cons.1 hl with rfl | hl
              · omega
              · exact hrest l hl, by simp; omega, fr_all (by simp) (by simp) (by simp) (by omega) (by rw [hC.at0]; rfl) (by rw [hC.at']; rfl) (fun i hi => by
              match i, hi with
              | 0, _ => rw [show n + 3 + 0 = n + 3 from rfl, hC.at']; rfl
              | i + 1, hi => exact hlab _ _ _ _ _ _ i (by simpa using hi)) (hq4 _ _ _ _ _ _), by omega, by omega, rfl⟩
          · exact hC.ret0 ⟨x0 :: xr, (l0 ++ [1]) :: lr, q, p2 + 1, by simp at g2 ⊢; omega, by simp at g3 ⊢; omega, g4, fun l hl => by
              rcases List.mem_cons.1 hl with rfl | hl
              · simp; omega
              · exact hrest l hl, by omega, fr_all (by simp) (by simp) (by simp) (by omega) (by rw [hC.at0]; rfl) (by rw [hC.at']; simp [refsF]) (fun i hi => by
              match i, hi with
              | 0, _ => rw [show n + 3 + 0 = n + 3 from rfl, hC.at']; rfl
              | i + 1, hi => exact hlab _ _ _ _ _ _ i (by simpa using hi)) (hq4 _ _ _ _ _ _), by omega, by omega, rfl⟩
          · refine InlK_intro rfl rfl can_someTensor ((isp_someTensor hS h0 h1 h2 h3 h4 hc (hC.app _) hb (p2 + 1) (by omega) hcp).mono ?_)
            rintro r L1 ⟨z, p4, o1, o2, o3, o4, rfl, rfl⟩
            repeat' (first | with_reducible refine RegQ.intro (by kernel_rfl) ?_ | ((with_reducible refine condQ_dec (fun hp => ?_) (fun hp => ?_)) <;> try simp only [hp]) | with_reducible refine condQ_beq (fun hp => ?_) (fun hp => ?_) | ((with_reducible refine wantQ_dec (fun hp => ?_) (fun hp => ?_)) <;> try simp only [hp]) | with_reducible refine wantQ_beq (fun hp => ?_) (fun hp => ?_) | ((with_reducible refine condQ_split (fun hp => ?_) (fun hp => ?_)) <;> try simp only [hp]) | ((with_reducible refine wantQ_split (fun hp => ?_) (fun hp => ?_)) <;> try simp only [hp]) | simp -implicitDefEqProofs (disch := omega) only [go_sem, Nat.reduceAdd, Nat.reduceSub, reduceCtorEq, Nat.reduceLT, Nat.reduceLeDiff, Nat.reduceEqDiff, Nat.reduceMul, Int.reduceToNat, ↓reduceIte, List.take_of_length_le, evApp_n1, evApp_i0, evApp_i1, evApp_i2, evApp_i3, evApp_i4, evApp_i5, evApp_s0, evApp_s1, evApp_s2, evApp_s3, if_pos, if_neg, decide_eq_true, decide_eq_false, beq_t, beq_f, wrap_succ, wrap_in, getD_ints, getD_intss, getD_tsrs, fillA_len, fillA_at, fillA_full, evApp_z0, evApp_z1, evApp_z2, evApp_z3, evApp_i6, List.getElem?_set_self, List.set_set, Try.ntmps56, Try.results56, hC.len, hC.get, hC.set, hC.get', hC.set', hC.at0, hC.at', hC.sat0, hC.sat', hC.len', hC.tk0, hC.tk1, hC.tk2, hC.tk3, hC.tk4, hC.tk5, hC.tk6, hpos2])
            exact hC.ret0 ⟨z :: xr, l0 :: lr, q, p4, by simp at g2 ⊢; omega, by simp at g3 ⊢; omega, fun x hx => by
              rcases List.mem_cons.1 hx with rfl | hx
              · exact ⟨o1, by omega⟩
              · exact g4 x (by simp [hx]), fun l hl => by
              rcases List.mem_cons.1 hl with rfl | hl
              · omega
              · exact hrest l hl, by omega, fr_all (by simp) (by simp) (by simp) (by omega) (by rw [hC.at0]; rfl) (by rw [hC.at']; simp [refsF]) (fun i hi => by
              match i, hi with
              | 0, _ => rw [show n + 3 + 0 = n + 3 from rfl, hC.at']; rfl
              | i + 1, hi => exact hlab _ _ _ _ _ _ i (by simpa using hi)) (hq4 _ _ _ _ _ _), by omega, by omega, rfl⟩
          · exact hC.ret0 ⟨x0 :: xr, l0 :: lr, q, p2 + 1, by simp at g2 ⊢; omega, by simp at g3 ⊢; omega, g4, fun l hl => by
              rcases List.mem_cons.1 hl with rfl | hl
              · omega
              · exact hrest l hl, by omega, fr_all (by simp) (by simp) (by simp) (by omega) (by rw [hC.at0]; rfl) (by rw [hC.at']; rfl) (fun i hi => by
              match i, hi with
              | 0, _ => rw [show n + 3 + 0 = n + 3 from rfl, hC.at']; rfl
              | i + 1, hi => exact hlab _ _ _ _ _ _ i (by simpa using hi)) (hq4 _ _ _ _ _ _), by omega, by omega, rfl⟩
end Go.Proofs.Ytfjhhbpipococaa
