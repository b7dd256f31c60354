/- Contracts of functions that the laws of this seat call. -/
import Derived.Test.YtfjhhbpipococaaKc
set_option linter.all false
namespace Go.Proofs.Ytfjhhbpipococaa
open Go Go.Ev Go.RowKit Go.Ev.Enc Go.Pl

theorem expS_holdT {X : List Blk} {b : Nat} {l : List Tsr} (h : holdT X b l) : expS 0 X l.length 0 l.length (some ⟨2, refsT (b + 1) l⟩) = .ds 0 (l.map fun x => .agg [ints 0 x.sh, ints 0 x.vl]) := by
  have h3 := refsT_len (b + 1) l
  simp only [expS, h3, Nat.zero_add, Nat.le_refl, and_self, if_true, List.drop_zero]
  rw [List.take_of_length_le (by omega)]
  congr 1
  apply List.ext_getElem
  · simp [h3]
  · intro i h1 h2
    have hi : i < l.length := by simpa using h2
    have q2 := refsT_at (c := b + 1) hi
    have q4 : X[b + 1 + 2 * i]? = some ⟨1, (l.getD i ⟨[], []⟩).sh.map fun n => .int .i64 n⟩ := (h.2 _ (by omega)).trans (innT_at0 hi)
    have q5 : X[b + 1 + 2 * i + 1]? = some ⟨1, (l.getD i ⟨[], []⟩).vl.map fun n => .int .i64 n⟩ := (h.2 _ (by omega)).trans (innT_at1 hi)
    rw [List.getElem_map, List.getElem_map]
    have e1 : (refsT (b + 1) l)[i]'(by omega) = tsrA (b + 1 + 2 * i) (b + 1 + 2 * i + 1) l[i] := by
      rw [show l[i] = l.getD i ⟨[], []⟩ by simp [hi], ← q2, List.getD_eq_getElem?_getD, List.getElem?_eq_getElem (by omega)]; rfl
    rw [show l.getD i ⟨[], []⟩ = l[i] by simp [hi]] at q4 q5
    rw [e1]
    simp only [expE, tsrA, List.map_cons, List.map_nil, stepC, q4, q5, List.length_map, Nat.zero_add, Nat.le_refl, and_self, if_true, List.drop_zero]
    rw [List.take_of_length_le (by simp), List.take_of_length_le (by simp)]
    simp [ints, Function.comp_def, expE, stepC]
theorem expS_holdI {X : List Blk} {b : Nat} {l : List (List Int)} (h : holdI X b l) : expS 0 X l.length 0 l.length (some ⟨1, refsI (b + 1) l⟩) = .ds 0 (l.map fun r => .ds 0 (r.map fun n => .int .i64 n)) := by
  have h3 := refsI_len (b + 1) l
  simp only [expS, h3, Nat.zero_add, Nat.le_refl, and_self, if_true, List.drop_zero]
  rw [List.take_of_length_le (by omega)]
  congr 1
  apply List.ext_getElem
  · simp [h3]
  · intro i h1 h2
    have hi : i < l.length := by simpa using h2
    have q2 := refsI_at (c := b + 1) hi
    have q4 : X[b + 1 + i]? = some ⟨1, (l.getD i []).map fun n => .int .i64 n⟩ := (h.2 _ (by omega)).trans (innI_at hi)
    rw [List.getElem_map, List.getElem_map]
    have e1 : (refsI (b + 1) l)[i]'(by omega) = .sl (b + 1 + i) l[i].length 0 l[i].length l[i].length := by
      rw [show l[i] = l.getD i [] by simp [hi], ← q2, List.getD_eq_getElem?_getD, List.getElem?_eq_getElem (by omega)]; rfl
    rw [show l.getD i [] = l[i] by simp [hi]] at q4
    rw [e1]
    simp only [expE, stepC, q4, List.length_map, Nat.zero_add, Nat.le_refl, and_self, if_true, List.drop_zero]
    rw [List.take_of_length_le (by simp)]
    simp [Function.comp_def, expE, stepC]
/-! heaps that grow -/
theorem gxA {L N X : List Blk} (h : X = L ++ N) {q : Nat} {B : Blk} (hq : L[q]? = some B) : X[q]? = some B := by
  subst h; rw [List.getElem?_append_left (List.getElem?_eq_some_iff.1 hq).1]; exact hq
theorem gx1 {L : List Blk} {A : Blk} {q : Nat} {B : Blk} (hq : L[q]? = some B) : (L ++ [A])[q]? = some B := gxA rfl hq
theorem gxl {L : List Blk} {A : Blk} : (L ++ [A])[L.length]? = some A := by simp
theorem holdT.gx {L N X : List Blk} (h : X = L ++ N) {b : Nat} {l : List Tsr} (hq : holdT L b l) : holdT X b l := by
  refine ⟨gxA h hq.1, fun j hj => ?_⟩
  have h1 := hq.2 j hj
  have h2 : j < (innT l).length := by rw [innT_len]; exact hj
  rw [List.getElem?_eq_getElem h2] at h1 ⊢
  exact gxA h h1
theorem holdI.gx {L N X : List Blk} (h : X = L ++ N) {b : Nat} {l : List (List Int)} (hq : holdI L b l) : holdI X b l := by
  refine ⟨gxA h hq.1, fun j hj => ?_⟩
  have h1 := hq.2 j hj
  have h2 : j < (innI l).length := by rw [innI_len]; exact hj
  rw [List.getElem?_eq_getElem h2] at h1 ⊢
  exact gxA h h1
theorem holdT_new {L X : List Blk} {n : Nat} {l : List Tsr} (hn : n = L.length) (hX : X = L ++ (⟨2, refsT (n + 1) l⟩ :: innT l)) : holdT X n l := by
  subst hn; subst hX
  refine ⟨by simp, fun j hj => ?_⟩
  rw [List.getElem?_append_right (by omega), show L.length + 1 + j - L.length = j + 1 by omega, List.getElem?_cons_succ]
theorem holdI_new {L X : List Blk} {n : Nat} {l : List (List Int)} (hn : n = L.length) (hX : X = L ++ (⟨1, refsI (n + 1) l⟩ :: innI l)) : holdI X n l := by
  subst hn; subst hX
  refine ⟨by simp, fun j hj => ?_⟩
  rw [List.getElem?_append_right (by omega), show L.length + 1 + j - L.length = j + 1 by omega, List.getElem?_cons_succ]
theorem holdT_len {L X : List Blk} {n : Nat} {l : List Tsr} (hn : n = L.length) (hX : X = L ++ (⟨2, refsT (n + 1) l⟩ :: innT l)) : X.length = n + 1 + 2 * l.length := by
  rw [hX, List.length_append, List.length_cons, innT_len]; omega
theorem holdI_len {L X : List Blk} {n : Nat} {l : List (List Int)} (hn : n = L.length) (hX : X = L ++ (⟨1, refsI (n + 1) l⟩ :: innI l)) : X.length = n + 1 + l.length := by
  rw [hX, List.length_append, List.length_cons, innI_len]; omega
theorem one_new {L X : List Blk} {n : Nat} {B : Blk} (hn : n = L.length) (hX : X = L ++ [B]) : X[n]? = some B := by subst hn; subst hX; simp
theorem one_len {L X : List Blk} {n : Nat} {B : Blk} (hn : n = L.length) (hX : X = L ++ [B]) : X.length = n + 1 := by subst hn; subst hX; simp
theorem two_new {L X : List Blk} {n : Nat} {B C : Blk} (hn : n = L.length) (hX : X = L ++ [B, C]) : X[n]? = some B ∧ X[n + 1]? = some C := by
  subst hn; subst hX
  exact ⟨by simp, by rw [List.getElem?_append_right (by omega), Nat.add_sub_cancel_left]; rfl⟩
theorem two_len {L X : List Blk} {n : Nat} {B C : Blk} (hn : n = L.length) (hX : X = L ++ [B, C]) : X.length = n + 2 := by subst hn; subst hX; simp
theorem sameOut.get {L L' : List Blk} {lo hi : Nat} (h : sameOut L L' lo hi) {q : Nat} {B : Blk} (hq : L[q]? = some B) (ho : q < lo ∨ hi ≤ q) : L'[q]? = some B := (h.2 q ho).trans hq
theorem sameOut.holdI {L L' : List Blk} {lo hi : Nat} (h : sameOut L L' lo hi) {b : Nat} {l : List (List Int)} (hq : holdI L b l) (ho : b + l.length < lo ∨ hi ≤ b) : holdI L' b l :=
  ⟨h.get hq.1 (by omega), fun j hj => (h.2 _ (by omega)).trans (hq.2 j hj)⟩
theorem oR_cons {t : Tsr} (h : t.sh ≠ []) (n : Nat) : oR (t, true) n = .tup [tsrA n (n + 1) t, .bool true] := by
  obtain ⟨sh, vl⟩ := t
  match sh, h with
  | a :: b, _ => rfl
theorem oN_cons {t : Tsr} (h : t.sh ≠ []) (n : Nat) : oN (t, true) n = [⟨1, t.sh.map fun n => .int .i64 n⟩, ⟨1, t.vl.map fun n => .int .i64 n⟩] := by
  obtain ⟨sh, vl⟩ := t
  match sh, h with
  | a :: b, _ => rfl
theorem tk_app (L : List Blk) (A : Blk) : (L ++ [A]).take (L.length + 1) = L ++ [A] := List.take_of_length_le (by simp)
theorem tsrT_facts {x : Option Tsr} {t : Tsr} {o : Bool} (h : tsrT x = (t, o)) : (o = false → t = ⟨[], []⟩) ∧ t.sh.length ≤ 1048576 ∧ t.vl.length ≤ 60 := by
  cases x with
  | none =>
    simp only [tsrT, Prod.mk.injEq] at h
    obtain ⟨rfl, rfl⟩ := h
    exact ⟨fun _ => rfl, by decide, by decide⟩
  | some u =>
    cases hk : tsrOK u with
    | false =>
      simp only [tsrT, hk, Bool.false_eq_true, if_false, Prod.mk.injEq] at h
      obtain ⟨rfl, rfl⟩ := h
      exact ⟨fun _ => rfl, by decide, by decide⟩
    | true =>
      simp only [tsrT, hk, if_true, Prod.mk.injEq] at h
      obtain ⟨rfl, rfl⟩ := h
      have h1 := tsr_vl60 hk
      refine ⟨fun h => (by cases h), ?_, h1⟩
      unfold tsrOK shapeOK at hk
      simp only [Bool.and_eq_true, decide_eq_true_eq] at hk
      omega
theorem callX {P : Program} {f : FuncId} {args : List AV} {r : Nat → AV} {N : Nat → List Blk} (h : OSpec P f args r N) {K : AV → List Blk → Prop} {L : List Blk} {xs : List AV} (hx : xs.map (exp 0 L) = args) (hk : ∀ n X, n = L.length → X = L ++ N n → K (r n) X) : ISpec P f xs L K :=
  h.call hx (hk _ _ rfl rfl)
set_option maxHeartbeats 2000000 in
set_option maxRecDepth 100000 in
theorem isp_markTensorV {Sg : FuncId → Option (List AV → Option AV)} (hS : Sound Try.prog Sg) (hm : Sg 21 = none) (v : List Int) (k : Int) (c : Nat) (L : List Blk) (hc : L[c]? = some ⟨1, v.map fun n => .int .i64 n⟩) (hx : v.length < 4294967296) (hk : 0 ≤ k ∧ k ≤ 100000000000) : ISpec Try.prog 22 [.agg [.nilS, .sl c v.length 0 v.length v.length], i64 k] L (fun r L' => r = i64 (k + v.length) ∧ L' = L.set c ⟨1, (mks k v.length).map fun n => .int .i64 n⟩ ++ [⟨2, [.agg [.nilS, .sl c v.length 0 v.length v.length]]⟩]) := by
  refine ISpec.intro Try.func22 rfl (vc_sound Try.pf hS _ _ _ ?_)
  have hcl : c < L.length := (List.getElem?_eq_some_iff.1 hc).1
  repeat' (first | with_reducible refine RegQ.intro (by kernel_rfl) ?_ | with_reducible refine DrawQ.nat (by kernel_rfl) ?_ | ((with_reducible refine condQ_dec (fun hp => ?_) (fun hp => ?_)) <;> try simp only [hp]) | with_reducible refine condQ_beq (fun hp => ?_) (fun hp => ?_) | ((with_reducible refine wantQ_dec (fun hp => ?_) (fun hp => ?_)) <;> try simp only [hp]) | with_reducible refine wantQ_beq (fun hp => ?_) (fun hp => ?_) | ((with_reducible refine condQ_split (fun hp => ?_) (fun hp => ?_)) <;> try simp only [hp]) | ((with_reducible refine wantQ_split (fun hp => ?_) (fun hp => ?_)) <;> try simp only [hp]) | simp -implicitDefEqProofs (disch := omega) only [go_sem, Nat.reduceAdd, Nat.reduceSub, reduceCtorEq, Nat.reduceLT, Nat.reduceLeDiff, Nat.reduceEqDiff, Nat.reduceMul, Int.reduceToNat, ↓reduceIte, List.take_of_length_le, evApp_n1, evApp_i0, evApp_i1, evApp_i2, evApp_i3, evApp_i4, evApp_i5, evApp_s0, evApp_s1, evApp_s2, evApp_s3, if_pos, if_neg, decide_eq_true, decide_eq_false, beq_t, beq_f, wrap_succ, wrap_in, getD_ints, getD_intss, getD_tsrs, fillA_len, fillA_at, fillA_full, evApp_z0, evApp_z1, evApp_z2, evApp_z3, evApp_i6, List.getElem?_set_self, List.set_set, Try.ntmps22, Try.results22, hm, opQ_none])
  refine InlK_intro rfl rfl can_markI ((isp_markIntZ hS k _).mono ?_)
  rintro r L1 ⟨rfl, rfl⟩
  repeat' (first | with_reducible refine RegQ.intro (by kernel_rfl) ?_ | with_reducible refine DrawQ.nat (by kernel_rfl) ?_ | ((with_reducible refine condQ_dec (fun hp => ?_) (fun hp => ?_)) <;> try simp only [hp]) | with_reducible refine condQ_beq (fun hp => ?_) (fun hp => ?_) | ((with_reducible refine wantQ_dec (fun hp => ?_) (fun hp => ?_)) <;> try simp only [hp]) | with_reducible refine wantQ_beq (fun hp => ?_) (fun hp => ?_) | ((with_reducible refine condQ_split (fun hp => ?_) (fun hp => ?_)) <;> try simp only [hp]) | ((with_reducible refine wantQ_split (fun hp => ?_) (fun hp => ?_)) <;> try simp only [hp]) | simp -implicitDefEqProofs (disch := omega) only [go_sem, Nat.reduceAdd, Nat.reduceSub, reduceCtorEq, Nat.reduceLT, Nat.reduceLeDiff, Nat.reduceEqDiff, Nat.reduceMul, Int.reduceToNat, ↓reduceIte, List.take_of_length_le, evApp_n1, evApp_i0, evApp_i1, evApp_i2, evApp_i3, evApp_i4, evApp_i5, evApp_s0, evApp_s1, evApp_s2, evApp_s3, if_pos, if_neg, decide_eq_true, decide_eq_false, beq_t, beq_f, wrap_succ, wrap_in, getD_ints, getD_intss, getD_tsrs, fillA_len, fillA_at, fillA_full, evApp_z0, evApp_z1, evApp_z2, evApp_z3, evApp_i6, List.getElem?_set_self, List.set_set, Try.ntmps22, Try.results22, hm, opQ_none])
  refine InlK_intro rfl rfl can_markI ((isp_markIntS hS v k c _ (by rw [List.getElem?_append_left hcl]; exact hc) hx (by omega)).mono ?_)
  rintro r L1 ⟨rfl, rfl⟩
  rw [List.set_append_left _ _ hcl]
  repeat' (first | with_reducible refine RegQ.intro (by kernel_rfl) ?_ | with_reducible refine DrawQ.nat (by kernel_rfl) ?_ | ((with_reducible refine condQ_dec (fun hp => ?_) (fun hp => ?_)) <;> try simp only [hp]) | with_reducible refine condQ_beq (fun hp => ?_) (fun hp => ?_) | ((with_reducible refine wantQ_dec (fun hp => ?_) (fun hp => ?_)) <;> try simp only [hp]) | with_reducible refine wantQ_beq (fun hp => ?_) (fun hp => ?_) | ((with_reducible refine condQ_split (fun hp => ?_) (fun hp => ?_)) <;> try simp only [hp]) | ((with_reducible refine wantQ_split (fun hp => ?_) (fun hp => ?_)) <;> try simp only [hp]) | simp -implicitDefEqProofs (disch := omega) only [go_sem, Nat.reduceAdd, Nat.reduceSub, reduceCtorEq, Nat.reduceLT, Nat.reduceLeDiff, Nat.reduceEqDiff, Nat.reduceMul, Int.reduceToNat, ↓reduceIte, List.take_of_length_le, evApp_n1, evApp_i0, evApp_i1, evApp_i2, evApp_i3, evApp_i4, evApp_i5, evApp_s0, evApp_s1, evApp_s2, evApp_s3, if_pos, if_neg, decide_eq_true, decide_eq_false, beq_t, beq_f, wrap_succ, wrap_in, getD_ints, getD_intss, getD_tsrs, fillA_len, fillA_at, fillA_full, evApp_z0, evApp_z1, evApp_z2, evApp_z3, evApp_i6, List.getElem?_set_self, List.set_set, Try.ntmps22, Try.results22])
def OToTS : Prop := ∀ l : List Tsr, l.length ≤ 1048576 → (∀ k, k < l.length → (l.getD k ⟨[], []⟩).sh.length ≤ 1048576 ∧ (l.getD k ⟨[], []⟩).vl.length ≤ 1048576) → OSpec Try.prog 11 [.ds 0 (l.map fun x => .agg [ints 0 x.sh, ints 0 x.vl])] (fun n => .sl n l.length 0 l.length l.length) (fun n => ⟨2, refsT (n + 1) l⟩ :: innT l)
def OToISS : Prop := ∀ l : List (List Int), l.length ≤ 1048576 → (∀ k, k < l.length → (l.getD k []).length ≤ 1048576) → OSpec Try.prog 12 [.ds 0 (l.map fun r => .ds 0 (r.map fun n => .int .i64 n))] (fun n => .sl n l.length 0 l.length l.length) (fun n => ⟨1, refsI (n + 1) l⟩ :: innI l)
def OCon : Prop := ∀ (l : List Tsr) (b : List (List Int)) (out : List Int), szOK l b → out.length ≤ 1048576 → OSpec Try.prog 26 [.ds 0 (l.map fun x => .agg [ints 0 x.sh, ints 0 x.vl]), .ds 0 (b.map fun r => .ds 0 (r.map fun n => .int .i64 n)), ints 0 out] (oR (tsrT ((extF l b).bind (contrF l b out)))) (oN (tsrT ((extF l b).bind (contrF l b out))))
def IMarkTS : Prop := ∀ (l : List Tsr) (k : Int) (b : Nat) (L : List Blk), holdT L b l → l.length ≤ 1048576 → (∀ i, i < l.length → (l.getD i ⟨[], []⟩).sh.length ≤ 1048576 ∧ (l.getD i ⟨[], []⟩).vl.length ≤ 1048576) → (0 ≤ k ∧ k ≤ 100000000000) → ISpec Try.prog 19 [.sl b l.length 0 l.length l.length, i64 k] L (fun r L' => ∃ k' : Int, r = i64 k' ∧ (0 ≤ k' ∧ k' ≤ k + 2097152 * l.length) ∧ sameOut L L' (b + 1) (b + 1 + 2 * l.length))
def IMarkISS : Prop := ∀ (l : List (List Int)) (k : Int) (b : Nat) (L : List Blk), holdI L b l → l.length ≤ 1048576 → (∀ i, i < l.length → (l.getD i []).length ≤ 1048576) → (0 ≤ k ∧ k ≤ 2500000000000) → ISpec Try.prog 20 [.sl b l.length 0 l.length l.length, i64 k] L (fun r L' => ∃ k' : Int, r = i64 k' ∧ (0 ≤ k' ∧ k' ≤ k + 1048576 * l.length) ∧ sameOut L L' (b + 1) (b + 1 + l.length))
def IMarkI : Prop := ∀ (l : List Int) (k : Int) (b : Nat) (L : List Blk), L[b]? = some ⟨1, l.map fun n => .int .i64 n⟩ → l.length < 4294967296 → (-4000000000000 ≤ k ∧ k ≤ 4000000000000) → ISpec Try.prog 21 [.sl b l.length 0 l.length l.length, i64 k] L (fun r L' => r = i64 (k + l.length) ∧ L' = L.set b ⟨1, (mks k l.length).map fun n => .int .i64 n⟩)
def IMarkV : Prop := ∀ (v : List Int) (k : Int) (c : Nat) (L : List Blk), L[c]? = some ⟨1, v.map fun n => .int .i64 n⟩ → v.length < 4294967296 → (0 ≤ k ∧ k ≤ 100000000000) → ISpec Try.prog 22 [.agg [.nilS, .sl c v.length 0 v.length v.length], i64 k] L (fun r L' => r = i64 (k + v.length) ∧ L' = L.set c ⟨1, (mks k v.length).map fun n => .int .i64 n⟩ ++ [⟨2, [.agg [.nilS, .sl c v.length 0 v.length v.length]]⟩])
theorem can_toTS : CanCall Try.prog 11 := ⟨_, Try.func11, rfl, rfl⟩
theorem can_toISS : CanCall Try.prog 12 := ⟨_, Try.func12, rfl, rfl⟩
theorem can_conI : CanCall Try.prog 26 := ⟨_, Try.func26, rfl, rfl⟩
theorem can_markTS : CanCall Try.prog 19 := ⟨_, Try.func19, rfl, rfl⟩
theorem can_markISS : CanCall Try.prog 20 := ⟨_, Try.func20, rfl, rfl⟩
def gTrueC (l : List Tsr) (b : List (List Int)) (out : List Int) : Option Bool := gd ((l.length ≤ 9223372036854775807 ∧ b.length ≤ 9223372036854775807 ∧ out.length ≤ 9223372036854775807) ∧ tsrsBig l ∧ bigRows b) true
end Go.Proofs.Ytfjhhbpipococaa
