/- Contracts of functions that the laws of this seat call. -/
import Derived.Test.YtbibnkgcegbmiaaKc
set_option linter.all false
namespace Go.Proofs.Ytbibnkgcegbmiaa
open Go Go.Ev Go.RowKit Go.Ev.Enc Go.Pl

theorem expS_holdT {X : List Blk} {b : Nat} {l : List Tsr} (h : holdT X b l) : expS 0 X l.length 0 l.length (some ⟨2, refsT (b + 1) l⟩) = .ds 0 (l.map fun x => .agg [ints 0 x.sh, ints 0 x.vl]) := by
  have h3 := refsT_len (b + 1) l
  simp only [expS, h3, Nat.zero_add, Nat.le_refl, and_self, if_true, List.drop_zero]
  rw [List.take_of_length_le (by omega)]
  congr 1
  apply List.ext_getElem
  · simp [h3]
  · intro i h1 h2
    have hi : i < l.length := by simpa using h2
    have q2 := refsT_at (c := b + 1) hi
    have q4 : X[b + 1 + 2 * i]? = some ⟨1, (l.getD i ⟨[], []⟩).sh.map fun n => .int .i64 n⟩ := (h.2 _ (by omega)).trans (innT_at0 hi)
    have q5 : X[b + 1 + 2 * i + 1]? = some ⟨1, (l.getD i ⟨[], []⟩).vl.map fun n => .int .i64 n⟩ := (h.2 _ (by omega)).trans (innT_at1 hi)
    rw [List.getElem_map, List.getElem_map]
    have e1 : (refsT (b + 1) l)[i]'(by omega) = tsrA (b + 1 + 2 * i) (b + 1 + 2 * i + 1) l[i] := by
      rw [show l[i] = l.getD i ⟨[], []⟩ by simp [hi], ← q2, List.getD_eq_getElem?_getD, List.getElem?_eq_getElem (by omega)]; rfl
    rw [show l.getD i ⟨[], []⟩ = l[i] by simp [hi]] at q4 q5
    rw [e1]
    simp only [expE, tsrA, List.map_cons, List.map_nil, stepC, q4, q5, List.length_map, Nat.zero_add, Nat.le_refl, and_self, if_true, List.drop_zero]
    rw [List.take_of_length_le (by simp), List.take_of_length_le (by simp)]
    simp [ints, Function.comp_def, expE, stepC]
theorem expS_holdI {X : List Blk} {b : Nat} {l : List (List Int)} (h : holdI X b l) : expS 0 X l.length 0 l.length (some ⟨1, refsI (b + 1) l⟩) = .ds 0 (l.map fun r => .ds 0 (r.map fun n => .int .i64 n)) := by
  have h3 := refsI_len (b + 1) l
  simp only [expS, h3, Nat.zero_add, Nat.le_refl, and_self, if_true, List.drop_zero]
  rw [List.take_of_length_le (by omega)]
  congr 1
  apply List.ext_getElem
  · simp [h3]
  · intro i h1 h2
    have hi : i < l.length := by simpa using h2
    have q2 := refsI_at (c := b + 1) hi
    have q4 : X[b + 1 + i]? = some ⟨1, (l.getD i []).map fun n => .int .i64 n⟩ := (h.2 _ (by omega)).trans (innI_at hi)
    rw [List.getElem_map, List.getElem_map]
    have e1 : (refsI (b + 1) l)[i]'(by omega) = .sl (b + 1 + i) l[i].length 0 l[i].length l[i].length := by
      rw [show l[i] = l.getD i [] by simp [hi], ← q2, List.getD_eq_getElem?_getD, List.getElem?_eq_getElem (by omega)]; rfl
    rw [show l.getD i [] = l[i] by simp [hi]] at q4
    rw [e1]
    simp only [expE, stepC, q4, List.length_map, Nat.zero_add, Nat.le_refl, and_self, if_true, List.drop_zero]
    rw [List.take_of_length_le (by simp)]
    simp [Function.comp_def, expE, stepC]
/-! heaps that grow -/
theorem gxA {L N X : List Blk} (h : X = L ++ N) {q : Nat} {B : Blk} (hq : L[q]? = some B) : X[q]? = some B := by
  subst h; rw [List.getElem?_append_left (List.getElem?_eq_some_iff.1 hq).1]; exact hq
theorem gx1 {L : List Blk} {A : Blk} {q : Nat} {B : Blk} (hq : L[q]? = some B) : (L ++ [A])[q]? = some B := gxA rfl hq
theorem gxl {L : List Blk} {A : Blk} : (L ++ [A])[L.length]? = some A := by simp
theorem holdT.gx {L N X : List Blk} (h : X = L ++ N) {b : Nat} {l : List Tsr} (hq : holdT L b l) : holdT X b l := by
  refine ⟨gxA h hq.1, fun j hj => ?_⟩
  have h1 := hq.2 j hj
  have h2 : j < (innT l).length := by rw [innT_len]; exact hj
  rw [List.getElem?_eq_getElem h2] at h1 ⊢
  exact gxA h h1
theorem holdI.gx {L N X : List Blk} (h : X = L ++ N) {b : Nat} {l : List (List Int)} (hq : holdI L b l) : holdI X b l := by
  refine ⟨gxA h hq.1, fun j hj => ?_⟩
  have h1 := hq.2 j hj
  have h2 : j < (innI l).length := by rw [innI_len]; exact hj
  rw [List.getElem?_eq_getElem h2] at h1 ⊢
  exact gxA h h1
theorem holdT_new {L X : List Blk} {n : Nat} {l : List Tsr} (hn : n = L.length) (hX : X = L ++ (⟨2, refsT (n + 1) l⟩ :: innT l)) : holdT X n l := by
  subst hn; subst hX
  refine ⟨by simp, fun j hj => ?_⟩
  rw [List.getElem?_append_right (by omega), show L.length + 1 + j - L.length = j + 1 by omega, List.getElem?_cons_succ]
theorem holdI_new {L X : List Blk} {n : Nat} {l : List (List Int)} (hn : n = L.length) (hX : X = L ++ (⟨1, refsI (n + 1) l⟩ :: innI l)) : holdI X n l := by
  subst hn; subst hX
  refine ⟨by simp, fun j hj => ?_⟩
  rw [List.getElem?_append_right (by omega), show L.length + 1 + j - L.length = j + 1 by omega, List.getElem?_cons_succ]
theorem holdT_len {L X : List Blk} {n : Nat} {l : List Tsr} (hn : n = L.length) (hX : X = L ++ (⟨2, refsT (n + 1) l⟩ :: innT l)) : X.length = n + 1 + 2 * l.length := by
  rw [hX, List.length_append, List.length_cons, innT_len]; omega
theorem holdI_len {L X : List Blk} {n : Nat} {l : List (List Int)} (hn : n = L.length) (hX : X = L ++ (⟨1, refsI (n + 1) l⟩ :: innI l)) : X.length = n + 1 + l.length := by
  rw [hX, List.length_append, List.length_cons, innI_len]; omega
theorem one_new {L X : List Blk} {n : Nat} {B : Blk} (hn : n = L.length) (hX : X = L ++ [B]) : X[n]? = some B := by subst hn; subst hX; simp
theorem one_len {L X : List Blk} {n : Nat} {B : Blk} (hn : n = L.length) (hX : X = L ++ [B]) : X.length = n + 1 := by subst hn; subst hX; simp
theorem two_new {L X : List Blk} {n : Nat} {B C : Blk} (hn : n = L.length) (hX : X = L ++ [B, C]) : X[n]? = some B ∧ X[n + 1]? = some C := by
  subst hn; subst hX
  exact ⟨by simp, by rw [List.getElem?_append_right (by omega), Nat.add_sub_cancel_left]; rfl⟩
theorem two_len {L X : List Blk} {n : Nat} {B C : Blk} (hn : n = L.length) (hX : X = L ++ [B, C]) : X.length = n + 2 := by subst hn; subst hX; simp
theorem sameOut.get {L L' : List Blk} {lo hi : Nat} (h : sameOut L L' lo hi) {q : Nat} {B : Blk} (hq : L[q]? = some B) (ho : q < lo ∨ hi ≤ q) : L'[q]? = some B := (h.2 q ho).trans hq
theorem sameOut.holdI {L L' : List Blk} {lo hi : Nat} (h : sameOut L L' lo hi) {b : Nat} {l : List (List Int)} (hq : holdI L b l) (ho : b + l.length < lo ∨ hi ≤ b) : holdI L' b l :=
  ⟨h.get hq.1 (by omega), fun j hj => (h.2 _ (by omega)).trans (hq.2 j hj)⟩
theorem oR_cons {t : Tsr} (h : t.sh ≠ []) (n : Nat) : oR (t, true) n = .tup [tsrA n (n + 1) t, .bool true] := by
  obtain ⟨sh, vl⟩ := t
  match sh, h with
  | a :: b, _ => rfl
theorem oN_cons {t : Tsr} (h : t.sh ≠ []) (n : Nat) : oN (t, true) n = [⟨1, t.sh.map fun n => .int .i64 n⟩, ⟨1, t.vl.map fun n => .int .i64 n⟩] := by
  obtain ⟨sh, vl⟩ := t
  match sh, h with
  | a :: b, _ => rfl
theorem tk_app (L : List Blk) (A : Blk) : (L ++ [A]).take (L.length + 1) = L ++ [A] := List.take_of_length_le (by simp)
theorem tsrT_facts {x : Option Tsr} {t : Tsr} {o : Bool} (h : tsrT x = (t, o)) : (o = false → t = ⟨[], []⟩) ∧ t.sh.length ≤ 1048576 ∧ t.vl.length ≤ 60 := by
  cases x with
  | none =>
    simp only [tsrT, Prod.mk.injEq] at h
    obtain ⟨rfl, rfl⟩ := h
    exact ⟨fun _ => rfl, by decide, by decide⟩
  | some u =>
    cases hk : tsrOK u with
    | false =>
      simp only [tsrT, hk, Bool.false_eq_true, if_false, Prod.mk.injEq] at h
      obtain ⟨rfl, rfl⟩ := h
      exact ⟨fun _ => rfl, by decide, by decide⟩
    | true =>
      simp only [tsrT, hk, if_true, Prod.mk.injEq] at h
      obtain ⟨rfl, rfl⟩ := h
      have h1 := tsr_vl60 hk
      refine ⟨fun h => (by cases h), ?_, h1⟩
      unfold tsrOK shapeOK at hk
      simp only [Bool.and_eq_true, decide_eq_true_eq] at hk
      omega
theorem callX {P : Program} {f : FuncId} {args : List AV} {r : Nat → AV} {N : Nat → List Blk} (h : OSpec P f args r N) {K : AV → List Blk → Prop} {L : List Blk} {xs : List AV} (hx : xs.map (exp 0 L) = args) (hk : ∀ n X, n = L.length → X = L ++ N n → K (r n) X) : ISpec P f xs L K :=
  h.call hx (hk _ _ rfl rfl)
set_option maxHeartbeats 2000000 in
set_option maxRecDepth 100000 in
theorem isp_markTensorV {Sg : FuncId → Option (List AV → Option AV)} (hS : Sound Try.prog Sg) (hm : Sg 46 = none) (v : List Int) (k : Int) (c : Nat) (L : List Blk) (hc : L[c]? = some ⟨1, v.map fun n => .int .i64 n⟩) (hx : v.length < 4294967296) (hk : 0 ≤ k ∧ k ≤ 100000000000) : ISpec Try.prog 34 [.agg [.nilS, .sl c v.length 0 v.length v.length], i64 k] L (fun r L' => r = i64 (k + v.length) ∧ L' = L.set c ⟨1, (mks k v.length).map fun n => .int .i64 n⟩ ++ [⟨2, [.agg [.nilS, .sl c v.length 0 v.length v.length]]⟩]) := by
  refine ISpec.intro Try.func34 rfl (vc_sound Try.pf hS _ _ _ ?_)
  have hcl : c < L.length := (List.getElem?_eq_some_iff.1 hc).1
  repeat' (first | with_reducible refine RegQ.intro (by kernel_rfl) ?_ | with_reducible refine DrawQ.nat (by kernel_rfl) ?_ | ((with_reducible refine condQ_dec (fun hp => ?_) (fun hp => ?_)) <;> try simp only [hp]) | with_reducible refine condQ_beq (fun hp => ?_) (fun hp => ?_) | ((with_reducible refine wantQ_dec (fun hp => ?_) (fun hp => ?_)) <;> try simp only [hp]) | with_reducible refine wantQ_beq (fun hp => ?_) (fun hp => ?_) | ((with_reducible refine condQ_split (fun hp => ?_) (fun hp => ?_)) <;> try simp only [hp]) | ((with_reducible refine wantQ_split (fun hp => ?_) (fun hp => ?_)) <;> try simp only [hp]) | simp -implicitDefEqProofs (disch := omega) only [go_sem, Nat.reduceAdd, Nat.reduceSub, reduceCtorEq, Nat.reduceLT, Nat.reduceLeDiff, Nat.reduceEqDiff, Nat.reduceMul, Int.reduceToNat, ↓reduceIte, List.take_of_length_le, evApp_n1, evApp_i0, evApp_i1, evApp_i2, evApp_i3, evApp_i4, evApp_i5, evApp_s0, evApp_s1, evApp_s2, evApp_s3, if_pos, if_neg, decide_eq_true, decide_eq_false, beq_t, beq_f, wrap_succ, wrap_in, getD_ints, getD_intss, getD_tsrs, fillA_len, fillA_at, fillA_full, evApp_z0, evApp_z1, evApp_z2, evApp_z3, evApp_i6, List.getElem?_set_self, List.set_set, Try.ntmps34, Try.results34, hm, opQ_none])
  refine InlK_intro rfl rfl can_markI ((isp_markIntZ hS k _).mono ?_)
  rintro r L1 ⟨rfl, rfl⟩
  repeat' (first | with_reducible refine RegQ.intro (by kernel_rfl) ?_ | with_reducible refine DrawQ.nat (by kernel_rfl) ?_ | ((with_reducible refine condQ_dec (fun hp => ?_) (fun hp => ?_)) <;> try simp only [hp]) | with_reducible refine condQ_beq (fun hp => ?_) (fun hp => ?_) | ((with_reducible refine wantQ_dec (fun hp => ?_) (fun hp => ?_)) <;> try simp only [hp]) | with_reducible refine wantQ_beq (fun hp => ?_) (fun hp => ?_) | ((with_reducible refine condQ_split (fun hp => ?_) (fun hp => ?_)) <;> try simp only [hp]) | ((with_reducible refine wantQ_split (fun hp => ?_) (fun hp => ?_)) <;> try simp only [hp]) | simp -implicitDefEqProofs (disch := omega) only [go_sem, Nat.reduceAdd, Nat.reduceSub, reduceCtorEq, Nat.reduceLT, Nat.reduceLeDiff, Nat.reduceEqDiff, Nat.reduceMul, Int.reduceToNat, ↓reduceIte, List.take_of_length_le, evApp_n1, evApp_i0, evApp_i1, evApp_i2, evApp_i3, evApp_i4, evApp_i5, evApp_s0, evApp_s1, evApp_s2, evApp_s3, if_pos, if_neg, decide_eq_true, decide_eq_false, beq_t, beq_f, wrap_succ, wrap_in, getD_ints, getD_intss, getD_tsrs, fillA_len, fillA_at, fillA_full, evApp_z0, evApp_z1, evApp_z2, evApp_z3, evApp_i6, List.getElem?_set_self, List.set_set, Try.ntmps34, Try.results34, hm, opQ_none])
  refine InlK_intro rfl rfl can_markI ((isp_markIntS hS v k c _ (by rw [List.getElem?_append_left hcl]; exact hc) hx (by omega)).mono ?_)
  rintro r L1 ⟨rfl, rfl⟩
  rw [List.set_append_left _ _ hcl]
  repeat' (first | with_reducible refine RegQ.intro (by kernel_rfl) ?_ | with_reducible refine DrawQ.nat (by kernel_rfl) ?_ | ((with_reducible refine condQ_dec (fun hp => ?_) (fun hp => ?_)) <;> try simp only [hp]) | with_reducible refine condQ_beq (fun hp => ?_) (fun hp => ?_) | ((with_reducible refine wantQ_dec (fun hp => ?_) (fun hp => ?_)) <;> try simp only [hp]) | with_reducible refine wantQ_beq (fun hp => ?_) (fun hp => ?_) | ((with_reducible refine condQ_split (fun hp => ?_) (fun hp => ?_)) <;> try simp only [hp]) | ((with_reducible refine wantQ_split (fun hp => ?_) (fun hp => ?_)) <;> try simp only [hp]) | simp -implicitDefEqProofs (disch := omega) only [go_sem, Nat.reduceAdd, Nat.reduceSub, reduceCtorEq, Nat.reduceLT, Nat.reduceLeDiff, Nat.reduceEqDiff, Nat.reduceMul, Int.reduceToNat, ↓reduceIte, List.take_of_length_le, evApp_n1, evApp_i0, evApp_i1, evApp_i2, evApp_i3, evApp_i4, evApp_i5, evApp_s0, evApp_s1, evApp_s2, evApp_s3, if_pos, if_neg, decide_eq_true, decide_eq_false, beq_t, beq_f, wrap_succ, wrap_in, getD_ints, getD_intss, getD_tsrs, fillA_len, fillA_at, fillA_full, evApp_z0, evApp_z1, evApp_z2, evApp_z3, evApp_i6, List.getElem?_set_self, List.set_set, Try.ntmps34, Try.results34])
def OToTS : Prop := ∀ l : List Tsr, l.length ≤ 1048576 → (∀ k, k < l.length → (l.getD k ⟨[], []⟩).sh.length ≤ 1048576 ∧ (l.getD k ⟨[], []⟩).vl.length ≤ 1048576) → OSpec Try.prog 18 [.ds 0 (l.map fun x => .agg [ints 0 x.sh, ints 0 x.vl])] (fun n => .sl n l.length 0 l.length l.length) (fun n => ⟨2, refsT (n + 1) l⟩ :: innT l)
def OToISS : Prop := ∀ l : List (List Int), l.length ≤ 1048576 → (∀ k, k < l.length → (l.getD k []).length ≤ 1048576) → OSpec Try.prog 19 [.ds 0 (l.map fun r => .ds 0 (r.map fun n => .int .i64 n))] (fun n => .sl n l.length 0 l.length l.length) (fun n => ⟨1, refsI (n + 1) l⟩ :: innI l)
def OCon : Prop := ∀ (l : List Tsr) (b : List (List Int)) (out : List Int), szOK l b → out.length ≤ 1048576 → OSpec Try.prog 41 [.ds 0 (l.map fun x => .agg [ints 0 x.sh, ints 0 x.vl]), .ds 0 (b.map fun r => .ds 0 (r.map fun n => .int .i64 n)), ints 0 out] (oR (tsrT ((extF l b).bind (contrF l b out)))) (oN (tsrT ((extF l b).bind (contrF l b out))))
def IMarkTS : Prop := ∀ (l : List Tsr) (k : Int) (b : Nat) (L : List Blk), holdT L b l → l.length ≤ 1048576 → (∀ i, i < l.length → (l.getD i ⟨[], []⟩).sh.length ≤ 1048576 ∧ (l.getD i ⟨[], []⟩).vl.length ≤ 1048576) → (0 ≤ k ∧ k ≤ 100000000000) → ISpec Try.prog 44 [.sl b l.length 0 l.length l.length, i64 k] L (fun r L' => ∃ k' : Int, r = i64 k' ∧ (0 ≤ k' ∧ k' ≤ k + 2097152 * l.length) ∧ sameOut L L' (b + 1) (b + 1 + 2 * l.length))
def IMarkISS : Prop := ∀ (l : List (List Int)) (k : Int) (b : Nat) (L : List Blk), holdI L b l → l.length ≤ 1048576 → (∀ i, i < l.length → (l.getD i []).length ≤ 1048576) → (0 ≤ k ∧ k ≤ 2500000000000) → ISpec Try.prog 45 [.sl b l.length 0 l.length l.length, i64 k] L (fun r L' => ∃ k' : Int, r = i64 k' ∧ (0 ≤ k' ∧ k' ≤ k + 1048576 * l.length) ∧ sameOut L L' (b + 1) (b + 1 + l.length))
def IMarkI : Prop := ∀ (l : List Int) (k : Int) (b : Nat) (L : List Blk), L[b]? = some ⟨1, l.map fun n => .int .i64 n⟩ → l.length < 4294967296 → (-4000000000000 ≤ k ∧ k ≤ 4000000000000) → ISpec Try.prog 46 [.sl b l.length 0 l.length l.length, i64 k] L (fun r L' => r = i64 (k + l.length) ∧ L' = L.set b ⟨1, (mks k l.length).map fun n => .int .i64 n⟩)
def IMarkV : Prop := ∀ (v : List Int) (k : Int) (c : Nat) (L : List Blk), L[c]? = some ⟨1, v.map fun n => .int .i64 n⟩ → v.length < 4294967296 → (0 ≤ k ∧ k ≤ 100000000000) → ISpec Try.prog 34 [.agg [.nilS, .sl c v.length 0 v.length v.length], i64 k] L (fun r L' => r = i64 (k + v.length) ∧ L' = L.set c ⟨1, (mks k v.length).map fun n => .int .i64 n⟩ ++ [⟨2, [.agg [.nilS, .sl c v.length 0 v.length v.length]]⟩])
theorem can_toTS : CanCall Try.prog 18 := ⟨_, Try.func18, rfl, rfl⟩
theorem can_toISS : CanCall Try.prog 19 := ⟨_, Try.func19, rfl, rfl⟩
theorem can_conI : CanCall Try.prog 41 := ⟨_, Try.func41, rfl, rfl⟩
theorem can_markTS : CanCall Try.prog 44 := ⟨_, Try.func44, rfl, rfl⟩
theorem can_markISS : CanCall Try.prog 45 := ⟨_, Try.func45, rfl, rfl⟩
def gTrueC (l : List Tsr) (b : List (List Int)) (out : List Int) : Option Bool := gd ((l.length ≤ 9223372036854775807 ∧ b.length ≤ 9223372036854775807 ∧ out.length ≤ 9223372036854775807) ∧ tsrsBig l ∧ bigRows b) true
set_option maxHeartbeats 8000000 in
set_option maxRecDepth 100000 in
theorem law_ConX {Sg Sd : FuncId → Option (List AV → Option AV)} (hS : Sound Try.prog Sg) (hD : Sound Try.prog Sd) (h1 : Sg 15 = some (F2 gSzTsrs)) (h2 : Sg 16 = some (F2 gSzIntss)) (n4 : Sg 18 = none) (n5 : Sg 19 = none) (n6 : Sg 20 = none) (h3 : Sg 42 = some (F3 gContr)) (n7 : Sg 41 = none) (h8 : Sg 22 = some (F2 gEqTsrs)) (h9 : Sg 23 = some (F2 gEqIntss)) (h10 : Sg 24 = some (F2 gEqInts)) (h11 : Sg 29 = some (F2 gEqTsr)) (h12 : Sg 35 = some (F2 gHeldT)) (m1 : Sg 44 = none) (m2 : Sg 45 = none) (m3 : Sg 46 = none) (m4 : Sg 34 = none) (oT : OToTS) (oS : OToISS) (oI : OToI) (oC : OCon) (iT : IMarkTS) (iS : IMarkISS) (iI : IMarkI) (iM : IMarkT) (iZ : IMarkZ) (iV : IMarkV) : ∀ a r, F3 gTrueC a = some r → CSpec Try.prog 14 a r := by
  refine F3_spec ?_
  intro l b out r hr
  obtain ⟨⟨⟨g1, g2, g3⟩, g4, g5⟩, rfl⟩ := gd_some hr
  refine law2 Try.func14 rfl Try.pf hS hD ?_
  by_cases c1 : 1048576 < out.length
  · repeat' (first | with_reducible refine RegQ.intro (by kernel_rfl) ?_ | with_reducible refine DrawQ.nat (by kernel_rfl) ?_ | ((with_reducible refine condQ_dec (fun hp => ?_) (fun hp => ?_)) <;> try simp only [hp]) | with_reducible refine condQ_beq (fun hp => ?_) (fun hp => ?_) | ((with_reducible refine wantQ_dec (fun hp => ?_) (fun hp => ?_)) <;> try simp only [hp]) | with_reducible refine wantQ_beq (fun hp => ?_) (fun hp => ?_) | ((with_reducible refine condQ_split (fun hp => ?_) (fun hp => ?_)) <;> try simp only [hp]) | ((with_reducible refine wantQ_split (fun hp => ?_) (fun hp => ?_)) <;> try simp only [hp]) | simp -implicitDefEqProofs (disch := omega) only [go_sem, Nat.reduceAdd, Nat.reduceSub, reduceCtorEq, Nat.reduceLT, Nat.reduceLeDiff, Nat.reduceEqDiff, Nat.reduceMul, Int.reduceToNat, ↓reduceIte, List.take_of_length_le, evApp_n1, evApp_i0, evApp_i1, evApp_i2, evApp_i3, evApp_i4, evApp_i5, evApp_s0, evApp_s1, evApp_s2, evApp_s3, if_pos, if_neg, decide_eq_true, decide_eq_false, beq_t, beq_f, wrap_succ, wrap_in, getD_ints, getD_intss, getD_tsrs, fillA_len, fillA_at, fillA_full, evApp_z0, evApp_z1, evApp_z2, evApp_z3, evApp_i6, List.getElem?_set_self, List.set_set, Try.ntmps14, Try.results14])
  · have e1 : gSzTsrs l 1048576 = some (szTS l 1048576) := gSzTsrs_eq ⟨⟨by omega, by omega, by omega⟩, g4⟩
    by_cases c2 : szTS l 1048576 < 0
    · repeat' (first | with_reducible refine RegQ.intro (by kernel_rfl) ?_ | with_reducible refine DrawQ.nat (by kernel_rfl) ?_ | ((with_reducible refine condQ_dec (fun hp => ?_) (fun hp => ?_)) <;> try simp only [hp]) | with_reducible refine condQ_beq (fun hp => ?_) (fun hp => ?_) | ((with_reducible refine wantQ_dec (fun hp => ?_) (fun hp => ?_)) <;> try simp only [hp]) | with_reducible refine wantQ_beq (fun hp => ?_) (fun hp => ?_) | ((with_reducible refine condQ_split (fun hp => ?_) (fun hp => ?_)) <;> try simp only [hp]) | ((with_reducible refine wantQ_split (fun hp => ?_) (fun hp => ?_)) <;> try simp only [hp]) | simp -implicitDefEqProofs (disch := omega) only [go_sem, Nat.reduceAdd, Nat.reduceSub, reduceCtorEq, Nat.reduceLT, Nat.reduceLeDiff, Nat.reduceEqDiff, Nat.reduceMul, Int.reduceToNat, ↓reduceIte, List.take_of_length_le, evApp_n1, evApp_i0, evApp_i1, evApp_i2, evApp_i3, evApp_i4, evApp_i5, evApp_s0, evApp_s1, evApp_s2, evApp_s3, if_pos, if_neg, decide_eq_true, decide_eq_false, beq_t, beq_f, wrap_succ, wrap_in, getD_ints, getD_intss, getD_tsrs, fillA_len, fillA_at, fillA_full, evApp_z0, evApp_z1, evApp_z2, evApp_z3, evApp_i6, List.getElem?_set_self, List.set_set, Try.ntmps14, Try.results14, h1, e1])
    · obtain ⟨k1, k2, k3⟩ := szTS_ok (by omega) c2
      have e2 : gSzIntss b (szTS l 1048576) = some (szSS b (szTS l 1048576)) := gSzIntss_eq ⟨⟨by omega, by omega, by omega⟩, g5⟩
      by_cases c3 : szSS b (szTS l 1048576) < 0
      · repeat' (first | with_reducible refine RegQ.intro (by kernel_rfl) ?_ | with_reducible refine DrawQ.nat (by kernel_rfl) ?_ | ((with_reducible refine condQ_dec (fun hp => ?_) (fun hp => ?_)) <;> try simp only [hp]) | with_reducible refine condQ_beq (fun hp => ?_) (fun hp => ?_) | ((with_reducible refine wantQ_dec (fun hp => ?_) (fun hp => ?_)) <;> try simp only [hp]) | with_reducible refine wantQ_beq (fun hp => ?_) (fun hp => ?_) | ((with_reducible refine condQ_split (fun hp => ?_) (fun hp => ?_)) <;> try simp only [hp]) | ((with_reducible refine wantQ_split (fun hp => ?_) (fun hp => ?_)) <;> try simp only [hp]) | simp -implicitDefEqProofs (disch := omega) only [go_sem, Nat.reduceAdd, Nat.reduceSub, reduceCtorEq, Nat.reduceLT, Nat.reduceLeDiff, Nat.reduceEqDiff, Nat.reduceMul, Int.reduceToNat, ↓reduceIte, List.take_of_length_le, evApp_n1, evApp_i0, evApp_i1, evApp_i2, evApp_i3, evApp_i4, evApp_i5, evApp_s0, evApp_s1, evApp_s2, evApp_s3, if_pos, if_neg, decide_eq_true, decide_eq_false, beq_t, beq_f, wrap_succ, wrap_in, getD_ints, getD_intss, getD_tsrs, fillA_len, fillA_at, fillA_full, evApp_z0, evApp_z1, evApp_z2, evApp_z3, evApp_i6, List.getElem?_set_self, List.set_set, Try.ntmps14, Try.results14, h1, e1, h2, e2])
      · obtain ⟨m1', m2', m3'⟩ := szSS_ok k3 c3
        have r1 : rowsOK b := fun k hk => by have := m2' k hk; omega
        have r2 : tsrsB l := fun k hk => by have := k2 k hk; exact ⟨by omega, by omega⟩
        have r3 : szOK l b := ⟨by omega, by omega, r2, r1⟩
        have u1 := gToTsrs_eq ⟨by omega, r2⟩
        have u2 := gToIntss_eq ⟨by omega, r1⟩
        have u3 := gToInts_eq (l := out) (by omega)
        have u4 := gContr_eq (l := l) (b := b) (out := out) ⟨r3, by omega⟩
        have u5 := gEqTsrs_eq ⟨⟨by omega, by omega⟩, r2, r2⟩
        have u6 := gEqIntss_eq ⟨⟨by omega, by omega⟩, r1, r1⟩
        have u7 := gEqInts_eq (a := out) (b := out) ⟨by omega, by omega⟩
        have oC' := oC l b out r3 (by omega)
        cases hT : tsrT ((extF l b).bind (contrF l b out)) with
        | mk t o =>
        rw [hT] at u4 oC'
        repeat' (first | with_reducible refine RegQ.intro (by kernel_rfl) ?_ | with_reducible refine DrawQ.nat (by kernel_rfl) ?_ | ((with_reducible refine condQ_dec (fun hp => ?_) (fun hp => ?_)) <;> try simp only [hp]) | with_reducible refine condQ_beq (fun hp => ?_) (fun hp => ?_) | ((with_reducible refine wantQ_dec (fun hp => ?_) (fun hp => ?_)) <;> try simp only [hp]) | with_reducible refine wantQ_beq (fun hp => ?_) (fun hp => ?_) | ((with_reducible refine condQ_split (fun hp => ?_) (fun hp => ?_)) <;> try simp only [hp]) | ((with_reducible refine wantQ_split (fun hp => ?_) (fun hp => ?_)) <;> try simp only [hp]) | simp -implicitDefEqProofs (disch := omega) only [go_sem, Nat.reduceAdd, Nat.reduceSub, reduceCtorEq, Nat.reduceLT, Nat.reduceLeDiff, Nat.reduceEqDiff, Nat.reduceMul, Int.reduceToNat, ↓reduceIte, List.take_of_length_le, evApp_n1, evApp_i0, evApp_i1, evApp_i2, evApp_i3, evApp_i4, evApp_i5, evApp_s0, evApp_s1, evApp_s2, evApp_s3, if_pos, if_neg, decide_eq_true, decide_eq_false, beq_t, beq_f, wrap_succ, wrap_in, getD_ints, getD_intss, getD_tsrs, fillA_len, fillA_at, fillA_full, evApp_z0, evApp_z1, evApp_z2, evApp_z3, evApp_i6, List.getElem?_set_self, List.set_set, Try.ntmps14, Try.results14, h1, e1, h2, e2, n4, opQ_none])
        refine InlK_intro rfl rfl can_toTS (callX (oT l k1 k2) (by simp only [go_sem, ints]) ?_)
        rintro p1 X1 hn1 hX1
        have a1 := holdT_new hn1 hX1
        have l1 := holdT_len hn1 hX1
        repeat' (first | with_reducible refine RegQ.intro (by kernel_rfl) ?_ | with_reducible refine DrawQ.nat (by kernel_rfl) ?_ | ((with_reducible refine condQ_dec (fun hp => ?_) (fun hp => ?_)) <;> try simp only [hp]) | with_reducible refine condQ_beq (fun hp => ?_) (fun hp => ?_) | ((with_reducible refine wantQ_dec (fun hp => ?_) (fun hp => ?_)) <;> try simp only [hp]) | with_reducible refine wantQ_beq (fun hp => ?_) (fun hp => ?_) | ((with_reducible refine condQ_split (fun hp => ?_) (fun hp => ?_)) <;> try simp only [hp]) | ((with_reducible refine wantQ_split (fun hp => ?_) (fun hp => ?_)) <;> try simp only [hp]) | simp -implicitDefEqProofs (disch := omega) only [go_sem, Nat.reduceAdd, Nat.reduceSub, reduceCtorEq, Nat.reduceLT, Nat.reduceLeDiff, Nat.reduceEqDiff, Nat.reduceMul, Int.reduceToNat, ↓reduceIte, List.take_of_length_le, evApp_n1, evApp_i0, evApp_i1, evApp_i2, evApp_i3, evApp_i4, evApp_i5, evApp_s0, evApp_s1, evApp_s2, evApp_s3, if_pos, if_neg, decide_eq_true, decide_eq_false, beq_t, beq_f, wrap_succ, wrap_in, getD_ints, getD_intss, getD_tsrs, fillA_len, fillA_at, fillA_full, evApp_z0, evApp_z1, evApp_z2, evApp_z3, evApp_i6, List.getElem?_set_self, List.set_set, Try.ntmps14, Try.results14, n5, opQ_none])
        refine InlK_intro rfl rfl can_toISS (callX (oS b m1' m2') (by simp only [go_sem, ints]) ?_)
        rintro p2 X2 hn2 hX2
        have b1 := holdI_new hn2 hX2
        have l2 := holdI_len hn2 hX2
        have a2 := a1.gx hX2
        repeat' (first | with_reducible refine RegQ.intro (by kernel_rfl) ?_ | with_reducible refine DrawQ.nat (by kernel_rfl) ?_ | ((with_reducible refine condQ_dec (fun hp => ?_) (fun hp => ?_)) <;> try simp only [hp]) | with_reducible refine condQ_beq (fun hp => ?_) (fun hp => ?_) | ((with_reducible refine wantQ_dec (fun hp => ?_) (fun hp => ?_)) <;> try simp only [hp]) | with_reducible refine wantQ_beq (fun hp => ?_) (fun hp => ?_) | ((with_reducible refine condQ_split (fun hp => ?_) (fun hp => ?_)) <;> try simp only [hp]) | ((with_reducible refine wantQ_split (fun hp => ?_) (fun hp => ?_)) <;> try simp only [hp]) | simp -implicitDefEqProofs (disch := omega) only [go_sem, Nat.reduceAdd, Nat.reduceSub, reduceCtorEq, Nat.reduceLT, Nat.reduceLeDiff, Nat.reduceEqDiff, Nat.reduceMul, Int.reduceToNat, ↓reduceIte, List.take_of_length_le, evApp_n1, evApp_i0, evApp_i1, evApp_i2, evApp_i3, evApp_i4, evApp_i5, evApp_s0, evApp_s1, evApp_s2, evApp_s3, if_pos, if_neg, decide_eq_true, decide_eq_false, beq_t, beq_f, wrap_succ, wrap_in, getD_ints, getD_intss, getD_tsrs, fillA_len, fillA_at, fillA_full, evApp_z0, evApp_z1, evApp_z2, evApp_z3, evApp_i6, List.getElem?_set_self, List.set_set, Try.ntmps14, Try.results14, n6, opQ_none])
        refine InlK_intro rfl rfl can_toI (callX (oI out (by omega)) (by simp only [go_sem, ints]) ?_)
        rintro p3 X3 hn3 hX3
        have d1 := one_new hn3 hX3
        have l3 := one_len hn3 hX3
        have a3 := a2.gx hX3
        have b3 := b1.gx hX3
        have q1 := expS_holdT a3
        have q2 := expS_holdI b3
        repeat' (first | with_reducible refine RegQ.intro (by kernel_rfl) ?_ | with_reducible refine DrawQ.nat (by kernel_rfl) ?_ | ((with_reducible refine condQ_dec (fun hp => ?_) (fun hp => ?_)) <;> try simp only [hp]) | with_reducible refine condQ_beq (fun hp => ?_) (fun hp => ?_) | ((with_reducible refine wantQ_dec (fun hp => ?_) (fun hp => ?_)) <;> try simp only [hp]) | with_reducible refine wantQ_beq (fun hp => ?_) (fun hp => ?_) | ((with_reducible refine condQ_split (fun hp => ?_) (fun hp => ?_)) <;> try simp only [hp]) | ((with_reducible refine wantQ_split (fun hp => ?_) (fun hp => ?_)) <;> try simp only [hp]) | simp -implicitDefEqProofs (disch := omega) only [go_sem, Nat.reduceAdd, Nat.reduceSub, reduceCtorEq, Nat.reduceLT, Nat.reduceLeDiff, Nat.reduceEqDiff, Nat.reduceMul, Int.reduceToNat, ↓reduceIte, List.take_of_length_le, evApp_n1, evApp_i0, evApp_i1, evApp_i2, evApp_i3, evApp_i4, evApp_i5, evApp_s0, evApp_s1, evApp_s2, evApp_s3, if_pos, if_neg, decide_eq_true, decide_eq_false, beq_t, beq_f, wrap_succ, wrap_in, getD_ints, getD_intss, getD_tsrs, fillA_len, fillA_at, fillA_full, evApp_z0, evApp_z1, evApp_z2, evApp_z3, evApp_i6, List.getElem?_set_self, List.set_set, Try.ntmps14, Try.results14, h3, u4, a3.1, q1, b3.1, q2, d1, n4, opQ_none])
        refine InlK_intro rfl rfl can_toTS (callX (oT l k1 k2) (by simp only [go_sem, ints]) ?_)
        rintro p4 X4 hn4 hX4
        have a4 := holdT_new hn4 hX4
        have l4 := holdT_len hn4 hX4
        have z4 := gxA hX4 (gxl (L := X3))
        repeat' (first | with_reducible refine RegQ.intro (by kernel_rfl) ?_ | with_reducible refine DrawQ.nat (by kernel_rfl) ?_ | ((with_reducible refine condQ_dec (fun hp => ?_) (fun hp => ?_)) <;> try simp only [hp]) | with_reducible refine condQ_beq (fun hp => ?_) (fun hp => ?_) | ((with_reducible refine wantQ_dec (fun hp => ?_) (fun hp => ?_)) <;> try simp only [hp]) | with_reducible refine wantQ_beq (fun hp => ?_) (fun hp => ?_) | ((with_reducible refine condQ_split (fun hp => ?_) (fun hp => ?_)) <;> try simp only [hp]) | ((with_reducible refine wantQ_split (fun hp => ?_) (fun hp => ?_)) <;> try simp only [hp]) | simp -implicitDefEqProofs (disch := omega) only [go_sem, Nat.reduceAdd, Nat.reduceSub, reduceCtorEq, Nat.reduceLT, Nat.reduceLeDiff, Nat.reduceEqDiff, Nat.reduceMul, Int.reduceToNat, ↓reduceIte, List.take_of_length_le, evApp_n1, evApp_i0, evApp_i1, evApp_i2, evApp_i3, evApp_i4, evApp_i5, evApp_s0, evApp_s1, evApp_s2, evApp_s3, if_pos, if_neg, decide_eq_true, decide_eq_false, beq_t, beq_f, wrap_succ, wrap_in, getD_ints, getD_intss, getD_tsrs, fillA_len, fillA_at, fillA_full, evApp_z0, evApp_z1, evApp_z2, evApp_z3, evApp_i6, List.getElem?_set_self, List.set_set, Try.ntmps14, Try.results14, n5, opQ_none])
        refine InlK_intro rfl rfl can_toISS (callX (oS b m1' m2') (by simp only [go_sem, ints]) ?_)
        rintro p5 X5 hn5 hX5
        have b5 := holdI_new hn5 hX5
        have l5 := holdI_len hn5 hX5
        have a5 := a4.gx hX5
        have z5 := gxA hX5 z4
        repeat' (first | with_reducible refine RegQ.intro (by kernel_rfl) ?_ | with_reducible refine DrawQ.nat (by kernel_rfl) ?_ | ((with_reducible refine condQ_dec (fun hp => ?_) (fun hp => ?_)) <;> try simp only [hp]) | with_reducible refine condQ_beq (fun hp => ?_) (fun hp => ?_) | ((with_reducible refine wantQ_dec (fun hp => ?_) (fun hp => ?_)) <;> try simp only [hp]) | with_reducible refine wantQ_beq (fun hp => ?_) (fun hp => ?_) | ((with_reducible refine condQ_split (fun hp => ?_) (fun hp => ?_)) <;> try simp only [hp]) | ((with_reducible refine wantQ_split (fun hp => ?_) (fun hp => ?_)) <;> try simp only [hp]) | simp -implicitDefEqProofs (disch := omega) only [go_sem, Nat.reduceAdd, Nat.reduceSub, reduceCtorEq, Nat.reduceLT, Nat.reduceLeDiff, Nat.reduceEqDiff, Nat.reduceMul, Int.reduceToNat, ↓reduceIte, List.take_of_length_le, evApp_n1, evApp_i0, evApp_i1, evApp_i2, evApp_i3, evApp_i4, evApp_i5, evApp_s0, evApp_s1, evApp_s2, evApp_s3, if_pos, if_neg, decide_eq_true, decide_eq_false, beq_t, beq_f, wrap_succ, wrap_in, getD_ints, getD_intss, getD_tsrs, fillA_len, fillA_at, fillA_full, evApp_z0, evApp_z1, evApp_z2, evApp_z3, evApp_i6, List.getElem?_set_self, List.set_set, Try.ntmps14, Try.results14, n6, opQ_none])
        refine InlK_intro rfl rfl can_toI (callX (oI out (by omega)) (by simp only [go_sem, ints]) ?_)
        rintro p6 X6 hn6 hX6
        have d6 := one_new hn6 hX6
        have l6 := one_len hn6 hX6
        have a6 := a5.gx hX6
        have b6 := b5.gx hX6
        have z6 := gxA hX6 z5
        have q3 := expS_holdT a6
        have q4 := expS_holdI b6
        repeat' (first | with_reducible refine RegQ.intro (by kernel_rfl) ?_ | with_reducible refine DrawQ.nat (by kernel_rfl) ?_ | ((with_reducible refine condQ_dec (fun hp => ?_) (fun hp => ?_)) <;> try simp only [hp]) | with_reducible refine condQ_beq (fun hp => ?_) (fun hp => ?_) | ((with_reducible refine wantQ_dec (fun hp => ?_) (fun hp => ?_)) <;> try simp only [hp]) | with_reducible refine wantQ_beq (fun hp => ?_) (fun hp => ?_) | ((with_reducible refine condQ_split (fun hp => ?_) (fun hp => ?_)) <;> try simp only [hp]) | ((with_reducible refine wantQ_split (fun hp => ?_) (fun hp => ?_)) <;> try simp only [hp]) | simp -implicitDefEqProofs (disch := omega) only [go_sem, Nat.reduceAdd, Nat.reduceSub, reduceCtorEq, Nat.reduceLT, Nat.reduceLeDiff, Nat.reduceEqDiff, Nat.reduceMul, Int.reduceToNat, ↓reduceIte, List.take_of_length_le, evApp_n1, evApp_i0, evApp_i1, evApp_i2, evApp_i3, evApp_i4, evApp_i5, evApp_s0, evApp_s1, evApp_s2, evApp_s3, if_pos, if_neg, decide_eq_true, decide_eq_false, beq_t, beq_f, wrap_succ, wrap_in, getD_ints, getD_intss, getD_tsrs, fillA_len, fillA_at, fillA_full, evApp_z0, evApp_z1, evApp_z2, evApp_z3, evApp_i6, List.getElem?_set_self, List.set_set, Try.ntmps14, Try.results14, n7, opQ_none])
        refine InlK_intro rfl rfl can_conI (callX oC' (by simp only [go_sem, ints, a6.1, b6.1, d6, q3, q4]) ?_)
        rintro p7 X7 hn7 hX7
        have a7 := a6.gx hX7
        have b7 := b6.gx hX7
        have z7 := gxA hX7 z6
        have d7 := gxA hX7 d6
        have ⟨ho, hlen⟩ := tsrT_facts hT
        have u8 := gEqTsr_eq (a := t) (b := t) ⟨⟨by omega, by omega⟩, ⟨by omega, by omega⟩⟩
        have w8 := fun A : Blk => gx1 (A := A) z7
        by_cases hsh : t.sh = []
        · obtain ⟨sh, vl⟩ := t
          obtain rfl : sh = [] := hsh
          have hlv : vl.length ≤ 60 := hlen.2
          cases o with
          | false =>
            obtain rfl : vl = [] := congrArg Tsr.vl (ho rfl)
            have l7 : X7.length = p7 := by rw [hn7, hX7]; simp [oN]
            have z7' : X7[X3.length]? = some ⟨2, [.agg [ints 1 [], ints 1 []]]⟩ := z7
            have w8 := fun A : Blk => gx1 (A := A) z7'
            rw [show oR (⟨[], []⟩, false) p7 = .tup [.agg [.nilS, .nilS], .bool false] from rfl]
            repeat' (first | with_reducible refine RegQ.intro (by kernel_rfl) ?_ | with_reducible refine DrawQ.nat (by kernel_rfl) ?_ | ((with_reducible refine condQ_dec (fun hp => ?_) (fun hp => ?_)) <;> try simp only [hp]) | with_reducible refine condQ_beq (fun hp => ?_) (fun hp => ?_) | ((with_reducible refine wantQ_dec (fun hp => ?_) (fun hp => ?_)) <;> try simp only [hp]) | with_reducible refine wantQ_beq (fun hp => ?_) (fun hp => ?_) | ((with_reducible refine condQ_split (fun hp => ?_) (fun hp => ?_)) <;> try simp only [hp]) | ((with_reducible refine wantQ_split (fun hp => ?_) (fun hp => ?_)) <;> try simp only [hp]) | simp -implicitDefEqProofs (disch := omega) only [go_sem, Nat.reduceAdd, Nat.reduceSub, reduceCtorEq, Nat.reduceLT, Nat.reduceLeDiff, Nat.reduceEqDiff, Nat.reduceMul, Int.reduceToNat, ↓reduceIte, List.take_of_length_le, evApp_n1, evApp_i0, evApp_i1, evApp_i2, evApp_i3, evApp_i4, evApp_i5, evApp_s0, evApp_s1, evApp_s2, evApp_s3, if_pos, if_neg, decide_eq_true, decide_eq_false, beq_t, beq_f, wrap_succ, wrap_in, getD_ints, getD_intss, getD_tsrs, fillA_len, fillA_at, fillA_full, evApp_z0, evApp_z1, evApp_z2, evApp_z3, evApp_i6, List.getElem?_set_self, List.set_set, Try.ntmps14, Try.results14, h11, w8, u8, dec_zz, n4, opQ_none, tk_app])
            refine InlK_intro rfl rfl can_toTS (callX (oT l k1 k2) (by simp only [go_sem, ints]) ?_)
            rintro p9 X9 hp9 hX9
            have l8 : (X7 ++ [(⟨2, [.agg [.nilS, .nilS]]⟩ : Blk)]).length = X7.length + 1 := by simp
            have s1 := holdT_new hp9 hX9
            have l9 := holdT_len hp9 hX9
            have a9 := (a7.gx (N := [⟨2, [.agg [.nilS, .nilS]]⟩]) rfl).gx hX9
            have b9 := (b7.gx (N := [⟨2, [.agg [.nilS, .nilS]]⟩]) rfl).gx hX9
            have d9 := gxA hX9 (gx1 d7)
            have z9 := gxA hX9 (w8 _)
            have y9 := gxA hX9 gxl
            have q5 := expS_holdT a9
            have q6 := expS_holdT s1
            repeat' (first | with_reducible refine RegQ.intro (by kernel_rfl) ?_ | with_reducible refine DrawQ.nat (by kernel_rfl) ?_ | ((with_reducible refine condQ_dec (fun hp => ?_) (fun hp => ?_)) <;> try simp only [hp]) | with_reducible refine condQ_beq (fun hp => ?_) (fun hp => ?_) | ((with_reducible refine wantQ_dec (fun hp => ?_) (fun hp => ?_)) <;> try simp only [hp]) | with_reducible refine wantQ_beq (fun hp => ?_) (fun hp => ?_) | ((with_reducible refine condQ_split (fun hp => ?_) (fun hp => ?_)) <;> try simp only [hp]) | ((with_reducible refine wantQ_split (fun hp => ?_) (fun hp => ?_)) <;> try simp only [hp]) | simp -implicitDefEqProofs (disch := omega) only [go_sem, Nat.reduceAdd, Nat.reduceSub, reduceCtorEq, Nat.reduceLT, Nat.reduceLeDiff, Nat.reduceEqDiff, Nat.reduceMul, Int.reduceToNat, ↓reduceIte, List.take_of_length_le, evApp_n1, evApp_i0, evApp_i1, evApp_i2, evApp_i3, evApp_i4, evApp_i5, evApp_s0, evApp_s1, evApp_s2, evApp_s3, if_pos, if_neg, decide_eq_true, decide_eq_false, beq_t, beq_f, wrap_succ, wrap_in, getD_ints, getD_intss, getD_tsrs, fillA_len, fillA_at, fillA_full, evApp_z0, evApp_z1, evApp_z2, evApp_z3, evApp_i6, List.getElem?_set_self, List.set_set, Try.ntmps14, Try.results14, h8, a9.1, s1.1, q5, q6, u5, n5, opQ_none])
            refine InlK_intro rfl rfl can_toISS (callX (oS b m1' m2') (by simp only [go_sem, ints]) ?_)
            rintro p10 X10 hp10 hX10
            have s2 := holdI_new hp10 hX10
            have l10 := holdI_len hp10 hX10
            have b10 := b9.gx hX10
            have q7 := expS_holdI b10
            have q8 := expS_holdI s2
            repeat' (first | with_reducible refine RegQ.intro (by kernel_rfl) ?_ | with_reducible refine DrawQ.nat (by kernel_rfl) ?_ | ((with_reducible refine condQ_dec (fun hp => ?_) (fun hp => ?_)) <;> try simp only [hp]) | with_reducible refine condQ_beq (fun hp => ?_) (fun hp => ?_) | ((with_reducible refine wantQ_dec (fun hp => ?_) (fun hp => ?_)) <;> try simp only [hp]) | with_reducible refine wantQ_beq (fun hp => ?_) (fun hp => ?_) | ((with_reducible refine condQ_split (fun hp => ?_) (fun hp => ?_)) <;> try simp only [hp]) | ((with_reducible refine wantQ_split (fun hp => ?_) (fun hp => ?_)) <;> try simp only [hp]) | simp -implicitDefEqProofs (disch := omega) only [go_sem, Nat.reduceAdd, Nat.reduceSub, reduceCtorEq, Nat.reduceLT, Nat.reduceLeDiff, Nat.reduceEqDiff, Nat.reduceMul, Int.reduceToNat, ↓reduceIte, List.take_of_length_le, evApp_n1, evApp_i0, evApp_i1, evApp_i2, evApp_i3, evApp_i4, evApp_i5, evApp_s0, evApp_s1, evApp_s2, evApp_s3, if_pos, if_neg, decide_eq_true, decide_eq_false, beq_t, beq_f, wrap_succ, wrap_in, getD_ints, getD_intss, getD_tsrs, fillA_len, fillA_at, fillA_full, evApp_z0, evApp_z1, evApp_z2, evApp_z3, evApp_i6, List.getElem?_set_self, List.set_set, Try.ntmps14, Try.results14, h9, b10.1, s2.1, q7, q8, u6, n6, opQ_none])
            refine InlK_intro rfl rfl can_toI (callX (oI out (by omega)) (by simp only [go_sem, ints]) ?_)
            rintro p11 X11 hp11 hX11
            have s3 := one_new hp11 hX11
            have l11 := one_len hp11 hX11
            have d11 := gxA hX11 (gxA hX10 d9)
            have a11 := (a9.gx hX10).gx hX11
            have b11 := b10.gx hX11
            have z11 := gxA hX11 (gxA hX10 z9)
            have y11 := gxA hX11 (gxA hX10 y9)
            have e4 : p4 = X3.length + 1 := by simpa using hn4
            repeat' (first | with_reducible refine RegQ.intro (by kernel_rfl) ?_ | with_reducible refine DrawQ.nat (by kernel_rfl) ?_ | ((with_reducible refine condQ_dec (fun hp => ?_) (fun hp => ?_)) <;> try simp only [hp]) | with_reducible refine condQ_beq (fun hp => ?_) (fun hp => ?_) | ((with_reducible refine wantQ_dec (fun hp => ?_) (fun hp => ?_)) <;> try simp only [hp]) | with_reducible refine wantQ_beq (fun hp => ?_) (fun hp => ?_) | ((with_reducible refine condQ_split (fun hp => ?_) (fun hp => ?_)) <;> try simp only [hp]) | ((with_reducible refine wantQ_split (fun hp => ?_) (fun hp => ?_)) <;> try simp only [hp]) | simp -implicitDefEqProofs (disch := omega) only [go_sem, Nat.reduceAdd, Nat.reduceSub, reduceCtorEq, Nat.reduceLT, Nat.reduceLeDiff, Nat.reduceEqDiff, Nat.reduceMul, Int.reduceToNat, ↓reduceIte, List.take_of_length_le, evApp_n1, evApp_i0, evApp_i1, evApp_i2, evApp_i3, evApp_i4, evApp_i5, evApp_s0, evApp_s1, evApp_s2, evApp_s3, if_pos, if_neg, decide_eq_true, decide_eq_false, beq_t, beq_f, wrap_succ, wrap_in, getD_ints, getD_intss, getD_tsrs, fillA_len, fillA_at, fillA_full, evApp_z0, evApp_z1, evApp_z2, evApp_z3, evApp_i6, List.getElem?_set_self, List.set_set, Try.ntmps14, Try.results14, h10, d11, s3, u7, m1, opQ_none])
            refine InlK_intro rfl rfl can_markTS ((iT l 1 p4 X11 a11 k1 k2 (by omega)).mono ?_)
            rintro r Y1 ⟨v1, rfl, ⟨v1a⟩, t1⟩
            have b12 := t1.holdI b11 (by omega)
            have d12 := t1.get d11 (by omega)
            have z12 := t1.get z11 (by omega)
            have y12 := t1.get y11 (by omega)
            repeat' (first | with_reducible refine RegQ.intro (by kernel_rfl) ?_ | with_reducible refine DrawQ.nat (by kernel_rfl) ?_ | ((with_reducible refine condQ_dec (fun hp => ?_) (fun hp => ?_)) <;> try simp only [hp]) | with_reducible refine condQ_beq (fun hp => ?_) (fun hp => ?_) | ((with_reducible refine wantQ_dec (fun hp => ?_) (fun hp => ?_)) <;> try simp only [hp]) | with_reducible refine wantQ_beq (fun hp => ?_) (fun hp => ?_) | ((with_reducible refine condQ_split (fun hp => ?_) (fun hp => ?_)) <;> try simp only [hp]) | ((with_reducible refine wantQ_split (fun hp => ?_) (fun hp => ?_)) <;> try simp only [hp]) | simp -implicitDefEqProofs (disch := omega) only [go_sem, Nat.reduceAdd, Nat.reduceSub, reduceCtorEq, Nat.reduceLT, Nat.reduceLeDiff, Nat.reduceEqDiff, Nat.reduceMul, Int.reduceToNat, ↓reduceIte, List.take_of_length_le, evApp_n1, evApp_i0, evApp_i1, evApp_i2, evApp_i3, evApp_i4, evApp_i5, evApp_s0, evApp_s1, evApp_s2, evApp_s3, if_pos, if_neg, decide_eq_true, decide_eq_false, beq_t, beq_f, wrap_succ, wrap_in, getD_ints, getD_intss, getD_tsrs, fillA_len, fillA_at, fillA_full, evApp_z0, evApp_z1, evApp_z2, evApp_z3, evApp_i6, List.getElem?_set_self, List.set_set, Try.ntmps14, Try.results14, m2, opQ_none])
            refine InlK_intro rfl rfl can_markISS ((iS b v1 p5 Y1 b12 m1' m2' (by omega)).mono ?_)
            rintro r Y2 ⟨v2, rfl, ⟨v2a⟩, t2⟩
            have d13 := t2.get d12 (by omega)
            have z13 := t2.get z12 (by omega)
            have y13 := t2.get y12 (by omega)
            repeat' (first | with_reducible refine RegQ.intro (by kernel_rfl) ?_ | with_reducible refine DrawQ.nat (by kernel_rfl) ?_ | ((with_reducible refine condQ_dec (fun hp => ?_) (fun hp => ?_)) <;> try simp only [hp]) | with_reducible refine condQ_beq (fun hp => ?_) (fun hp => ?_) | ((with_reducible refine wantQ_dec (fun hp => ?_) (fun hp => ?_)) <;> try simp only [hp]) | with_reducible refine wantQ_beq (fun hp => ?_) (fun hp => ?_) | ((with_reducible refine condQ_split (fun hp => ?_) (fun hp => ?_)) <;> try simp only [hp]) | ((with_reducible refine wantQ_split (fun hp => ?_) (fun hp => ?_)) <;> try simp only [hp]) | simp -implicitDefEqProofs (disch := omega) only [go_sem, Nat.reduceAdd, Nat.reduceSub, reduceCtorEq, Nat.reduceLT, Nat.reduceLeDiff, Nat.reduceEqDiff, Nat.reduceMul, Int.reduceToNat, ↓reduceIte, List.take_of_length_le, evApp_n1, evApp_i0, evApp_i1, evApp_i2, evApp_i3, evApp_i4, evApp_i5, evApp_s0, evApp_s1, evApp_s2, evApp_s3, if_pos, if_neg, decide_eq_true, decide_eq_false, beq_t, beq_f, wrap_succ, wrap_in, getD_ints, getD_intss, getD_tsrs, fillA_len, fillA_at, fillA_full, evApp_z0, evApp_z1, evApp_z2, evApp_z3, evApp_i6, List.getElem?_set_self, List.set_set, Try.ntmps14, Try.results14, m3, opQ_none])
            refine InlK_intro rfl rfl can_markI ((iI out v2 p6 Y2 d13 (by omega) (by omega)).mono ?_)
            rintro r Y3 ⟨rfl, hY3⟩
            have t3 : sameOut Y2 Y3 p6 (p6 + 1) := by
              subst hY3
              exact sameOut.set (L := Y2) (L' := Y2) (lo := p6) (hi := p6) ⟨rfl, fun _ _ => rfl⟩ (Nat.le_refl _) _ (by omega) (by omega)
            have z14 := t3.get z13 (by omega)
            have y14 := t3.get y13 (by omega)
            clear hY3
            have w1 : ¬ (v2 + (out.length : Int) < 0) := by omega
            repeat' (first | with_reducible refine RegQ.intro (by kernel_rfl) ?_ | with_reducible refine DrawQ.nat (by kernel_rfl) ?_ | ((with_reducible refine condQ_dec (fun hp => ?_) (fun hp => ?_)) <;> try simp only [hp]) | with_reducible refine condQ_beq (fun hp => ?_) (fun hp => ?_) | ((with_reducible refine wantQ_dec (fun hp => ?_) (fun hp => ?_)) <;> try simp only [hp]) | with_reducible refine wantQ_beq (fun hp => ?_) (fun hp => ?_) | ((with_reducible refine condQ_split (fun hp => ?_) (fun hp => ?_)) <;> try simp only [hp]) | ((with_reducible refine wantQ_split (fun hp => ?_) (fun hp => ?_)) <;> try simp only [hp]) | simp -implicitDefEqProofs (disch := omega) only [go_sem, Nat.reduceAdd, Nat.reduceSub, reduceCtorEq, Nat.reduceLT, Nat.reduceLeDiff, Nat.reduceEqDiff, Nat.reduceMul, Int.reduceToNat, ↓reduceIte, List.take_of_length_le, evApp_n1, evApp_i0, evApp_i1, evApp_i2, evApp_i3, evApp_i4, evApp_i5, evApp_s0, evApp_s1, evApp_s2, evApp_s3, if_pos, if_neg, decide_eq_true, decide_eq_false, beq_t, beq_f, wrap_succ, wrap_in, getD_ints, getD_intss, getD_tsrs, fillA_len, fillA_at, fillA_full, evApp_z0, evApp_z1, evApp_z2, evApp_z3, evApp_i6, List.getElem?_set_self, List.set_set, Try.ntmps14, Try.results14, h11, z14, y14, u8, dec_zz, w1, m4, opQ_none])
            refine InlK_intro rfl rfl can_markT ((iZ 1 Y3).mono ?_)
            rintro r Y4 ⟨rfl, hY4⟩
            have z15 := gxA hY4 z14
            have y15 := gxA hY4 y14
            clear hY4
            have u9 : gHeldT ⟨[], []⟩ 1 = some 1 := gHeldT_eq (x := ⟨[], []⟩) (k := 1) (by decide)
            repeat' (first | with_reducible refine RegQ.intro (by kernel_rfl) ?_ | with_reducible refine DrawQ.nat (by kernel_rfl) ?_ | ((with_reducible refine condQ_dec (fun hp => ?_) (fun hp => ?_)) <;> try simp only [hp]) | with_reducible refine condQ_beq (fun hp => ?_) (fun hp => ?_) | ((with_reducible refine wantQ_dec (fun hp => ?_) (fun hp => ?_)) <;> try simp only [hp]) | with_reducible refine wantQ_beq (fun hp => ?_) (fun hp => ?_) | ((with_reducible refine condQ_split (fun hp => ?_) (fun hp => ?_)) <;> try simp only [hp]) | ((with_reducible refine wantQ_split (fun hp => ?_) (fun hp => ?_)) <;> try simp only [hp]) | simp -implicitDefEqProofs (disch := omega) only [go_sem, Nat.reduceAdd, Nat.reduceSub, reduceCtorEq, Nat.reduceLT, Nat.reduceLeDiff, Nat.reduceEqDiff, Nat.reduceMul, Int.reduceToNat, ↓reduceIte, List.take_of_length_le, evApp_n1, evApp_i0, evApp_i1, evApp_i2, evApp_i3, evApp_i4, evApp_i5, evApp_s0, evApp_s1, evApp_s2, evApp_s3, if_pos, if_neg, decide_eq_true, decide_eq_false, beq_t, beq_f, wrap_succ, wrap_in, getD_ints, getD_intss, getD_tsrs, fillA_len, fillA_at, fillA_full, evApp_z0, evApp_z1, evApp_z2, evApp_z3, evApp_i6, List.getElem?_set_self, List.set_set, Try.ntmps14, Try.results14, h12, mks_len, mks_take, z15, y15, u9, dec_zz, n4, opQ_none])
            refine InlK_intro rfl rfl can_toTS (callX (oT l k1 k2) (by simp only [go_sem, ints]) ?_)
            rintro p16 X16 hp16 hX16
            have a16 := holdT_new hp16 hX16
            have l16 := holdT_len hp16 hX16
            repeat' (first | with_reducible refine RegQ.intro (by kernel_rfl) ?_ | with_reducible refine DrawQ.nat (by kernel_rfl) ?_ | ((with_reducible refine condQ_dec (fun hp => ?_) (fun hp => ?_)) <;> try simp only [hp]) | with_reducible refine condQ_beq (fun hp => ?_) (fun hp => ?_) | ((with_reducible refine wantQ_dec (fun hp => ?_) (fun hp => ?_)) <;> try simp only [hp]) | with_reducible refine wantQ_beq (fun hp => ?_) (fun hp => ?_) | ((with_reducible refine condQ_split (fun hp => ?_) (fun hp => ?_)) <;> try simp only [hp]) | ((with_reducible refine wantQ_split (fun hp => ?_) (fun hp => ?_)) <;> try simp only [hp]) | simp -implicitDefEqProofs (disch := omega) only [go_sem, Nat.reduceAdd, Nat.reduceSub, reduceCtorEq, Nat.reduceLT, Nat.reduceLeDiff, Nat.reduceEqDiff, Nat.reduceMul, Int.reduceToNat, ↓reduceIte, List.take_of_length_le, evApp_n1, evApp_i0, evApp_i1, evApp_i2, evApp_i3, evApp_i4, evApp_i5, evApp_s0, evApp_s1, evApp_s2, evApp_s3, if_pos, if_neg, decide_eq_true, decide_eq_false, beq_t, beq_f, wrap_succ, wrap_in, getD_ints, getD_intss, getD_tsrs, fillA_len, fillA_at, fillA_full, evApp_z0, evApp_z1, evApp_z2, evApp_z3, evApp_i6, List.getElem?_set_self, List.set_set, Try.ntmps14, Try.results14, n5, opQ_none])
            refine InlK_intro rfl rfl can_toISS (callX (oS b m1' m2') (by simp only [go_sem, ints]) ?_)
            rintro p17 X17 hp17 hX17
            have b17 := holdI_new hp17 hX17
            have l17 := holdI_len hp17 hX17
            repeat' (first | with_reducible refine RegQ.intro (by kernel_rfl) ?_ | with_reducible refine DrawQ.nat (by kernel_rfl) ?_ | ((with_reducible refine condQ_dec (fun hp => ?_) (fun hp => ?_)) <;> try simp only [hp]) | with_reducible refine condQ_beq (fun hp => ?_) (fun hp => ?_) | ((with_reducible refine wantQ_dec (fun hp => ?_) (fun hp => ?_)) <;> try simp only [hp]) | with_reducible refine wantQ_beq (fun hp => ?_) (fun hp => ?_) | ((with_reducible refine condQ_split (fun hp => ?_) (fun hp => ?_)) <;> try simp only [hp]) | ((with_reducible refine wantQ_split (fun hp => ?_) (fun hp => ?_)) <;> try simp only [hp]) | simp -implicitDefEqProofs (disch := omega) only [go_sem, Nat.reduceAdd, Nat.reduceSub, reduceCtorEq, Nat.reduceLT, Nat.reduceLeDiff, Nat.reduceEqDiff, Nat.reduceMul, Int.reduceToNat, ↓reduceIte, List.take_of_length_le, evApp_n1, evApp_i0, evApp_i1, evApp_i2, evApp_i3, evApp_i4, evApp_i5, evApp_s0, evApp_s1, evApp_s2, evApp_s3, if_pos, if_neg, decide_eq_true, decide_eq_false, beq_t, beq_f, wrap_succ, wrap_in, getD_ints, getD_intss, getD_tsrs, fillA_len, fillA_at, fillA_full, evApp_z0, evApp_z1, evApp_z2, evApp_z3, evApp_i6, List.getElem?_set_self, List.set_set, Try.ntmps14, Try.results14, n6, opQ_none])
            refine InlK_intro rfl rfl can_toI (callX (oI out (by omega)) (by simp only [go_sem, ints]) ?_)
            rintro p18 X18 hp18 hX18
            have d18 := one_new hp18 hX18
            have a18 := (a16.gx hX17).gx hX18
            have b18 := b17.gx hX18
            have z18 := gxA hX18 (gxA hX17 (gxA hX16 z15))
            have y18 := gxA hX18 (gxA hX17 (gxA hX16 y15))
            have q9 := expS_holdT a18
            have q10 := expS_holdI b18
            repeat' (first | with_reducible refine RegQ.intro (by kernel_rfl) ?_ | with_reducible refine DrawQ.nat (by kernel_rfl) ?_ | ((with_reducible refine condQ_dec (fun hp => ?_) (fun hp => ?_)) <;> try simp only [hp]) | with_reducible refine condQ_beq (fun hp => ?_) (fun hp => ?_) | ((with_reducible refine wantQ_dec (fun hp => ?_) (fun hp => ?_)) <;> try simp only [hp]) | with_reducible refine wantQ_beq (fun hp => ?_) (fun hp => ?_) | ((with_reducible refine condQ_split (fun hp => ?_) (fun hp => ?_)) <;> try simp only [hp]) | ((with_reducible refine wantQ_split (fun hp => ?_) (fun hp => ?_)) <;> try simp only [hp]) | simp -implicitDefEqProofs (disch := omega) only [go_sem, Nat.reduceAdd, Nat.reduceSub, reduceCtorEq, Nat.reduceLT, Nat.reduceLeDiff, Nat.reduceEqDiff, Nat.reduceMul, Int.reduceToNat, ↓reduceIte, List.take_of_length_le, evApp_n1, evApp_i0, evApp_i1, evApp_i2, evApp_i3, evApp_i4, evApp_i5, evApp_s0, evApp_s1, evApp_s2, evApp_s3, if_pos, if_neg, decide_eq_true, decide_eq_false, beq_t, beq_f, wrap_succ, wrap_in, getD_ints, getD_intss, getD_tsrs, fillA_len, fillA_at, fillA_full, evApp_z0, evApp_z1, evApp_z2, evApp_z3, evApp_i6, List.getElem?_set_self, List.set_set, Try.ntmps14, Try.results14, n7, opQ_none])
            refine InlK_intro rfl rfl can_conI (callX oC' (by simp only [go_sem, ints, a18.1, b18.1, d18, q9, q10]) ?_)
            rintro p19 X19 hp19 hX19
            have z19 := fun A : Blk => gx1 (A := A) (gxA hX19 z18)
            have y19 := fun A : Blk => gx1 (A := A) (gxA hX19 y18)
            rw [show oR (⟨[], []⟩, false) p19 = .tup [.agg [.nilS, .nilS], .bool false] from rfl]
            repeat' (first | with_reducible refine RegQ.intro (by kernel_rfl) ?_ | with_reducible refine DrawQ.nat (by kernel_rfl) ?_ | ((with_reducible refine condQ_dec (fun hp => ?_) (fun hp => ?_)) <;> try simp only [hp]) | with_reducible refine condQ_beq (fun hp => ?_) (fun hp => ?_) | ((with_reducible refine wantQ_dec (fun hp => ?_) (fun hp => ?_)) <;> try simp only [hp]) | with_reducible refine wantQ_beq (fun hp => ?_) (fun hp => ?_) | ((with_reducible refine condQ_split (fun hp => ?_) (fun hp => ?_)) <;> try simp only [hp]) | ((with_reducible refine wantQ_split (fun hp => ?_) (fun hp => ?_)) <;> try simp only [hp]) | simp -implicitDefEqProofs (disch := omega) only [go_sem, Nat.reduceAdd, Nat.reduceSub, reduceCtorEq, Nat.reduceLT, Nat.reduceLeDiff, Nat.reduceEqDiff, Nat.reduceMul, Int.reduceToNat, ↓reduceIte, List.take_of_length_le, evApp_n1, evApp_i0, evApp_i1, evApp_i2, evApp_i3, evApp_i4, evApp_i5, evApp_s0, evApp_s1, evApp_s2, evApp_s3, if_pos, if_neg, decide_eq_true, decide_eq_false, beq_t, beq_f, wrap_succ, wrap_in, getD_ints, getD_intss, getD_tsrs, fillA_len, fillA_at, fillA_full, evApp_z0, evApp_z1, evApp_z2, evApp_z3, evApp_i6, List.getElem?_set_self, List.set_set, Try.ntmps14, Try.results14, h11, h12, z19, y19, u8, dec_zz, u9, mks_len, mks_take, tk_app])
          | true =>
            have w7 : X7[p7]? = some ⟨1, vl.map fun n => .int .i64 n⟩ := one_new hn7 hX7
            have l7 := one_len hn7 hX7
            have w8b := fun A : Blk => gx1 (A := A) w7
            have z7' : X7[X3.length]? = some ⟨2, [.agg [ints 1 [], ints 1 vl]]⟩ := z7
            have w8 := fun A : Blk => gx1 (A := A) z7'
            rw [show oR (⟨[], vl⟩, true) p7 = .tup [.agg [.nilS, .sl p7 vl.length 0 vl.length vl.length], .bool true] from rfl]
            repeat' (first | with_reducible refine RegQ.intro (by kernel_rfl) ?_ | with_reducible refine DrawQ.nat (by kernel_rfl) ?_ | ((with_reducible refine condQ_dec (fun hp => ?_) (fun hp => ?_)) <;> try simp only [hp]) | with_reducible refine condQ_beq (fun hp => ?_) (fun hp => ?_) | ((with_reducible refine wantQ_dec (fun hp => ?_) (fun hp => ?_)) <;> try simp only [hp]) | with_reducible refine wantQ_beq (fun hp => ?_) (fun hp => ?_) | ((with_reducible refine condQ_split (fun hp => ?_) (fun hp => ?_)) <;> try simp only [hp]) | ((with_reducible refine wantQ_split (fun hp => ?_) (fun hp => ?_)) <;> try simp only [hp]) | simp -implicitDefEqProofs (disch := omega) only [go_sem, Nat.reduceAdd, Nat.reduceSub, reduceCtorEq, Nat.reduceLT, Nat.reduceLeDiff, Nat.reduceEqDiff, Nat.reduceMul, Int.reduceToNat, ↓reduceIte, List.take_of_length_le, evApp_n1, evApp_i0, evApp_i1, evApp_i2, evApp_i3, evApp_i4, evApp_i5, evApp_s0, evApp_s1, evApp_s2, evApp_s3, if_pos, if_neg, decide_eq_true, decide_eq_false, beq_t, beq_f, wrap_succ, wrap_in, getD_ints, getD_intss, getD_tsrs, fillA_len, fillA_at, fillA_full, evApp_z0, evApp_z1, evApp_z2, evApp_z3, evApp_i6, List.getElem?_set_self, List.set_set, Try.ntmps14, Try.results14, h11, w8, w8b, u8, dec_tsr0, n4, opQ_none, tk_app])
            refine InlK_intro rfl rfl can_toTS (callX (oT l k1 k2) (by simp only [go_sem, ints]) ?_)
            rintro p9 X9 hp9 hX9
            have l8 : (X7 ++ [(⟨2, [.agg [.nilS, .sl p7 vl.length 0 vl.length vl.length]]⟩ : Blk)]).length = X7.length + 1 := by simp
            have s1 := holdT_new hp9 hX9
            have l9 := holdT_len hp9 hX9
            have a9 := (a7.gx (N := [⟨2, [.agg [.nilS, .sl p7 vl.length 0 vl.length vl.length]]⟩]) rfl).gx hX9
            have b9 := (b7.gx (N := [⟨2, [.agg [.nilS, .sl p7 vl.length 0 vl.length vl.length]]⟩]) rfl).gx hX9
            have d9 := gxA hX9 (gx1 d7)
            have z9 := gxA hX9 (w8 _)
            have w9b := gxA hX9 (w8b _)
            have y9 := gxA hX9 gxl
            have q5 := expS_holdT a9
            have q6 := expS_holdT s1
            repeat' (first | with_reducible refine RegQ.intro (by kernel_rfl) ?_ | with_reducible refine DrawQ.nat (by kernel_rfl) ?_ | ((with_reducible refine condQ_dec (fun hp => ?_) (fun hp => ?_)) <;> try simp only [hp]) | with_reducible refine condQ_beq (fun hp => ?_) (fun hp => ?_) | ((with_reducible refine wantQ_dec (fun hp => ?_) (fun hp => ?_)) <;> try simp only [hp]) | with_reducible refine wantQ_beq (fun hp => ?_) (fun hp => ?_) | ((with_reducible refine condQ_split (fun hp => ?_) (fun hp => ?_)) <;> try simp only [hp]) | ((with_reducible refine wantQ_split (fun hp => ?_) (fun hp => ?_)) <;> try simp only [hp]) | simp -implicitDefEqProofs (disch := omega) only [go_sem, Nat.reduceAdd, Nat.reduceSub, reduceCtorEq, Nat.reduceLT, Nat.reduceLeDiff, Nat.reduceEqDiff, Nat.reduceMul, Int.reduceToNat, ↓reduceIte, List.take_of_length_le, evApp_n1, evApp_i0, evApp_i1, evApp_i2, evApp_i3, evApp_i4, evApp_i5, evApp_s0, evApp_s1, evApp_s2, evApp_s3, if_pos, if_neg, decide_eq_true, decide_eq_false, beq_t, beq_f, wrap_succ, wrap_in, getD_ints, getD_intss, getD_tsrs, fillA_len, fillA_at, fillA_full, evApp_z0, evApp_z1, evApp_z2, evApp_z3, evApp_i6, List.getElem?_set_self, List.set_set, Try.ntmps14, Try.results14, h8, a9.1, s1.1, q5, q6, u5, n5, opQ_none])
            refine InlK_intro rfl rfl can_toISS (callX (oS b m1' m2') (by simp only [go_sem, ints]) ?_)
            rintro p10 X10 hp10 hX10
            have s2 := holdI_new hp10 hX10
            have l10 := holdI_len hp10 hX10
            have b10 := b9.gx hX10
            have q7 := expS_holdI b10
            have q8 := expS_holdI s2
            repeat' (first | with_reducible refine RegQ.intro (by kernel_rfl) ?_ | with_reducible refine DrawQ.nat (by kernel_rfl) ?_ | ((with_reducible refine condQ_dec (fun hp => ?_) (fun hp => ?_)) <;> try simp only [hp]) | with_reducible refine condQ_beq (fun hp => ?_) (fun hp => ?_) | ((with_reducible refine wantQ_dec (fun hp => ?_) (fun hp => ?_)) <;> try simp only [hp]) | with_reducible refine wantQ_beq (fun hp => ?_) (fun hp => ?_) | ((with_reducible refine condQ_split (fun hp => ?_) (fun hp => ?_)) <;> try simp only [hp]) | ((with_reducible refine wantQ_split (fun hp => ?_) (fun hp => ?_)) <;> try simp only [hp]) | simp -implicitDefEqProofs (disch := omega) only [go_sem, Nat.reduceAdd, Nat.reduceSub, reduceCtorEq, Nat.reduceLT, Nat.reduceLeDiff, Nat.reduceEqDiff, Nat.reduceMul, Int.reduceToNat, ↓reduceIte, List.take_of_length_le, evApp_n1, evApp_i0, evApp_i1, evApp_i2, evApp_i3, evApp_i4, evApp_i5, evApp_s0, evApp_s1, evApp_s2, evApp_s3, if_pos, if_neg, decide_eq_true, decide_eq_false, beq_t, beq_f, wrap_succ, wrap_in, getD_ints, getD_intss, getD_tsrs, fillA_len, fillA_at, fillA_full, evApp_z0, evApp_z1, evApp_z2, evApp_z3, evApp_i6, List.getElem?_set_self, List.set_set, Try.ntmps14, Try.results14, h9, b10.1, s2.1, q7, q8, u6, n6, opQ_none])
            refine InlK_intro rfl rfl can_toI (callX (oI out (by omega)) (by simp only [go_sem, ints]) ?_)
            rintro p11 X11 hp11 hX11
            have s3 := one_new hp11 hX11
            have l11 := one_len hp11 hX11
            have d11 := gxA hX11 (gxA hX10 d9)
            have a11 := (a9.gx hX10).gx hX11
            have b11 := b10.gx hX11
            have z11 := gxA hX11 (gxA hX10 z9)
            have y11 := gxA hX11 (gxA hX10 y9)
            have w11b := gxA hX11 (gxA hX10 w9b)
            have e4 : p4 = X3.length + 1 := by simpa using hn4
            repeat' (first | with_reducible refine RegQ.intro (by kernel_rfl) ?_ | with_reducible refine DrawQ.nat (by kernel_rfl) ?_ | ((with_reducible refine condQ_dec (fun hp => ?_) (fun hp => ?_)) <;> try simp only [hp]) | with_reducible refine condQ_beq (fun hp => ?_) (fun hp => ?_) | ((with_reducible refine wantQ_dec (fun hp => ?_) (fun hp => ?_)) <;> try simp only [hp]) | with_reducible refine wantQ_beq (fun hp => ?_) (fun hp => ?_) | ((with_reducible refine condQ_split (fun hp => ?_) (fun hp => ?_)) <;> try simp only [hp]) | ((with_reducible refine wantQ_split (fun hp => ?_) (fun hp => ?_)) <;> try simp only [hp]) | simp -implicitDefEqProofs (disch := omega) only [go_sem, Nat.reduceAdd, Nat.reduceSub, reduceCtorEq, Nat.reduceLT, Nat.reduceLeDiff, Nat.reduceEqDiff, Nat.reduceMul, Int.reduceToNat, ↓reduceIte, List.take_of_length_le, evApp_n1, evApp_i0, evApp_i1, evApp_i2, evApp_i3, evApp_i4, evApp_i5, evApp_s0, evApp_s1, evApp_s2, evApp_s3, if_pos, if_neg, decide_eq_true, decide_eq_false, beq_t, beq_f, wrap_succ, wrap_in, getD_ints, getD_intss, getD_tsrs, fillA_len, fillA_at, fillA_full, evApp_z0, evApp_z1, evApp_z2, evApp_z3, evApp_i6, List.getElem?_set_self, List.set_set, Try.ntmps14, Try.results14, h10, d11, s3, u7, m1, opQ_none])
            refine InlK_intro rfl rfl can_markTS ((iT l 1 p4 X11 a11 k1 k2 (by omega)).mono ?_)
            rintro r Y1 ⟨v1, rfl, ⟨v1a, v1b⟩, t1⟩
            have b12 := t1.holdI b11 (by omega)
            have d12 := t1.get d11 (by omega)
            have z12 := t1.get z11 (by omega)
            have y12 := t1.get y11 (by omega)
            have w12b := t1.get w11b (by omega)
            repeat' (first | with_reducible refine RegQ.intro (by kernel_rfl) ?_ | with_reducible refine DrawQ.nat (by kernel_rfl) ?_ | ((with_reducible refine condQ_dec (fun hp => ?_) (fun hp => ?_)) <;> try simp only [hp]) | with_reducible refine condQ_beq (fun hp => ?_) (fun hp => ?_) | ((with_reducible refine wantQ_dec (fun hp => ?_) (fun hp => ?_)) <;> try simp only [hp]) | with_reducible refine wantQ_beq (fun hp => ?_) (fun hp => ?_) | ((with_reducible refine condQ_split (fun hp => ?_) (fun hp => ?_)) <;> try simp only [hp]) | ((with_reducible refine wantQ_split (fun hp => ?_) (fun hp => ?_)) <;> try simp only [hp]) | simp -implicitDefEqProofs (disch := omega) only [go_sem, Nat.reduceAdd, Nat.reduceSub, reduceCtorEq, Nat.reduceLT, Nat.reduceLeDiff, Nat.reduceEqDiff, Nat.reduceMul, Int.reduceToNat, ↓reduceIte, List.take_of_length_le, evApp_n1, evApp_i0, evApp_i1, evApp_i2, evApp_i3, evApp_i4, evApp_i5, evApp_s0, evApp_s1, evApp_s2, evApp_s3, if_pos, if_neg, decide_eq_true, decide_eq_false, beq_t, beq_f, wrap_succ, wrap_in, getD_ints, getD_intss, getD_tsrs, fillA_len, fillA_at, fillA_full, evApp_z0, evApp_z1, evApp_z2, evApp_z3, evApp_i6, List.getElem?_set_self, List.set_set, Try.ntmps14, Try.results14, m2, opQ_none])
            refine InlK_intro rfl rfl can_markISS ((iS b v1 p5 Y1 b12 m1' m2' (by omega)).mono ?_)
            rintro r Y2 ⟨v2, rfl, ⟨v2a, v2b⟩, t2⟩
            have d13 := t2.get d12 (by omega)
            have z13 := t2.get z12 (by omega)
            have y13 := t2.get y12 (by omega)
            have w13b := t2.get w12b (by omega)
            repeat' (first | with_reducible refine RegQ.intro (by kernel_rfl) ?_ | with_reducible refine DrawQ.nat (by kernel_rfl) ?_ | ((with_reducible refine condQ_dec (fun hp => ?_) (fun hp => ?_)) <;> try simp only [hp]) | with_reducible refine condQ_beq (fun hp => ?_) (fun hp => ?_) | ((with_reducible refine wantQ_dec (fun hp => ?_) (fun hp => ?_)) <;> try simp only [hp]) | with_reducible refine wantQ_beq (fun hp => ?_) (fun hp => ?_) | ((with_reducible refine condQ_split (fun hp => ?_) (fun hp => ?_)) <;> try simp only [hp]) | ((with_reducible refine wantQ_split (fun hp => ?_) (fun hp => ?_)) <;> try simp only [hp]) | simp -implicitDefEqProofs (disch := omega) only [go_sem, Nat.reduceAdd, Nat.reduceSub, reduceCtorEq, Nat.reduceLT, Nat.reduceLeDiff, Nat.reduceEqDiff, Nat.reduceMul, Int.reduceToNat, ↓reduceIte, List.take_of_length_le, evApp_n1, evApp_i0, evApp_i1, evApp_i2, evApp_i3, evApp_i4, evApp_i5, evApp_s0, evApp_s1, evApp_s2, evApp_s3, if_pos, if_neg, decide_eq_true, decide_eq_false, beq_t, beq_f, wrap_succ, wrap_in, getD_ints, getD_intss, getD_tsrs, fillA_len, fillA_at, fillA_full, evApp_z0, evApp_z1, evApp_z2, evApp_z3, evApp_i6, List.getElem?_set_self, List.set_set, Try.ntmps14, Try.results14, m3, opQ_none])
            refine InlK_intro rfl rfl can_markI ((iI out v2 p6 Y2 d13 (by omega) (by omega)).mono ?_)
            rintro r Y3 ⟨rfl, hY3⟩
            have t3 : sameOut Y2 Y3 p6 (p6 + 1) := by
              subst hY3
              exact sameOut.set (L := Y2) (L' := Y2) (lo := p6) (hi := p6) ⟨rfl, fun _ _ => rfl⟩ (Nat.le_refl _) _ (by omega) (by omega)
            have z14 := t3.get z13 (by omega)
            have y14 := t3.get y13 (by omega)
            have w14b := t3.get w13b (by omega)
            clear hY3
            have w1 : ¬ (v2 + (out.length : Int) < 0) := by omega
            repeat' (first | with_reducible refine RegQ.intro (by kernel_rfl) ?_ | with_reducible refine DrawQ.nat (by kernel_rfl) ?_ | ((with_reducible refine condQ_dec (fun hp => ?_) (fun hp => ?_)) <;> try simp only [hp]) | with_reducible refine condQ_beq (fun hp => ?_) (fun hp => ?_) | ((with_reducible refine wantQ_dec (fun hp => ?_) (fun hp => ?_)) <;> try simp only [hp]) | with_reducible refine wantQ_beq (fun hp => ?_) (fun hp => ?_) | ((with_reducible refine condQ_split (fun hp => ?_) (fun hp => ?_)) <;> try simp only [hp]) | ((with_reducible refine wantQ_split (fun hp => ?_) (fun hp => ?_)) <;> try simp only [hp]) | simp -implicitDefEqProofs (disch := omega) only [go_sem, Nat.reduceAdd, Nat.reduceSub, reduceCtorEq, Nat.reduceLT, Nat.reduceLeDiff, Nat.reduceEqDiff, Nat.reduceMul, Int.reduceToNat, ↓reduceIte, List.take_of_length_le, evApp_n1, evApp_i0, evApp_i1, evApp_i2, evApp_i3, evApp_i4, evApp_i5, evApp_s0, evApp_s1, evApp_s2, evApp_s3, if_pos, if_neg, decide_eq_true, decide_eq_false, beq_t, beq_f, wrap_succ, wrap_in, getD_ints, getD_intss, getD_tsrs, fillA_len, fillA_at, fillA_full, evApp_z0, evApp_z1, evApp_z2, evApp_z3, evApp_i6, List.getElem?_set_self, List.set_set, Try.ntmps14, Try.results14, h11, z14, y14, w14b, u8, dec_tsr0, w1, m4, opQ_none])
            refine InlK_intro rfl rfl can_markT ((iV vl 1 p7 Y3 w14b (by omega) (by omega)).mono ?_)
            rintro r Y4 ⟨rfl, hY4⟩
            have hb2 : p7 < Y3.length := (List.getElem?_eq_some_iff.1 w14b).1
            have w15b := gxA hY4 (show (Y3.set p7 ⟨1, (mks 1 vl.length).map fun n => .int .i64 n⟩)[p7]? = some ⟨1, (mks 1 vl.length).map fun n => .int .i64 n⟩ by rw [List.getElem?_set_self hb2])
            have z15 := gxA hY4 (show (Y3.set p7 ⟨1, (mks 1 vl.length).map fun n => .int .i64 n⟩)[X3.length]? = _ by rw [List.getElem?_set_ne (by omega)]; exact z14)
            have y15 := gxA hY4 (show (Y3.set p7 ⟨1, (mks 1 vl.length).map fun n => .int .i64 n⟩)[X7.length]? = _ by rw [List.getElem?_set_ne (by omega)]; exact y14)
            clear hY4
            have u9 : gHeldT ⟨[], mks 1 vl.length⟩ 1 = some (1 + (vl.length : Int)) := (gHeldT_eq (x := ⟨[], mks 1 vl.length⟩) (k := 1) ⟨by simp, by simp only [mks_len]; omega, by omega, by omega, rfl, by simp [mks_len]⟩).trans (by simp [mks_len])
            have w2 : ¬ ((1 : Int) + vl.length < 0) := by omega
            repeat' (first | with_reducible refine RegQ.intro (by kernel_rfl) ?_ | with_reducible refine DrawQ.nat (by kernel_rfl) ?_ | ((with_reducible refine condQ_dec (fun hp => ?_) (fun hp => ?_)) <;> try simp only [hp]) | with_reducible refine condQ_beq (fun hp => ?_) (fun hp => ?_) | ((with_reducible refine wantQ_dec (fun hp => ?_) (fun hp => ?_)) <;> try simp only [hp]) | with_reducible refine wantQ_beq (fun hp => ?_) (fun hp => ?_) | ((with_reducible refine condQ_split (fun hp => ?_) (fun hp => ?_)) <;> try simp only [hp]) | ((with_reducible refine wantQ_split (fun hp => ?_) (fun hp => ?_)) <;> try simp only [hp]) | simp -implicitDefEqProofs (disch := omega) only [go_sem, Nat.reduceAdd, Nat.reduceSub, reduceCtorEq, Nat.reduceLT, Nat.reduceLeDiff, Nat.reduceEqDiff, Nat.reduceMul, Int.reduceToNat, ↓reduceIte, List.take_of_length_le, evApp_n1, evApp_i0, evApp_i1, evApp_i2, evApp_i3, evApp_i4, evApp_i5, evApp_s0, evApp_s1, evApp_s2, evApp_s3, if_pos, if_neg, decide_eq_true, decide_eq_false, beq_t, beq_f, wrap_succ, wrap_in, getD_ints, getD_intss, getD_tsrs, fillA_len, fillA_at, fillA_full, evApp_z0, evApp_z1, evApp_z2, evApp_z3, evApp_i6, List.getElem?_set_self, List.set_set, Try.ntmps14, Try.results14, h12, mks_len, mks_take, z15, y15, w15b, u9, dec_tsr0, w2, n4, opQ_none])
            refine InlK_intro rfl rfl can_toTS (callX (oT l k1 k2) (by simp only [go_sem, ints]) ?_)
            rintro p16 X16 hp16 hX16
            have a16 := holdT_new hp16 hX16
            have l16 := holdT_len hp16 hX16
            repeat' (first | with_reducible refine RegQ.intro (by kernel_rfl) ?_ | with_reducible refine DrawQ.nat (by kernel_rfl) ?_ | ((with_reducible refine condQ_dec (fun hp => ?_) (fun hp => ?_)) <;> try simp only [hp]) | with_reducible refine condQ_beq (fun hp => ?_) (fun hp => ?_) | ((with_reducible refine wantQ_dec (fun hp => ?_) (fun hp => ?_)) <;> try simp only [hp]) | with_reducible refine wantQ_beq (fun hp => ?_) (fun hp => ?_) | ((with_reducible refine condQ_split (fun hp => ?_) (fun hp => ?_)) <;> try simp only [hp]) | ((with_reducible refine wantQ_split (fun hp => ?_) (fun hp => ?_)) <;> try simp only [hp]) | simp -implicitDefEqProofs (disch := omega) only [go_sem, Nat.reduceAdd, Nat.reduceSub, reduceCtorEq, Nat.reduceLT, Nat.reduceLeDiff, Nat.reduceEqDiff, Nat.reduceMul, Int.reduceToNat, ↓reduceIte, List.take_of_length_le, evApp_n1, evApp_i0, evApp_i1, evApp_i2, evApp_i3, evApp_i4, evApp_i5, evApp_s0, evApp_s1, evApp_s2, evApp_s3, if_pos, if_neg, decide_eq_true, decide_eq_false, beq_t, beq_f, wrap_succ, wrap_in, getD_ints, getD_intss, getD_tsrs, fillA_len, fillA_at, fillA_full, evApp_z0, evApp_z1, evApp_z2, evApp_z3, evApp_i6, List.getElem?_set_self, List.set_set, Try.ntmps14, Try.results14, n5, opQ_none])
            refine InlK_intro rfl rfl can_toISS (callX (oS b m1' m2') (by simp only [go_sem, ints]) ?_)
            rintro p17 X17 hp17 hX17
            have b17 := holdI_new hp17 hX17
            have l17 := holdI_len hp17 hX17
            repeat' (first | with_reducible refine RegQ.intro (by kernel_rfl) ?_ | with_reducible refine DrawQ.nat (by kernel_rfl) ?_ | ((with_reducible refine condQ_dec (fun hp => ?_) (fun hp => ?_)) <;> try simp only [hp]) | with_reducible refine condQ_beq (fun hp => ?_) (fun hp => ?_) | ((with_reducible refine wantQ_dec (fun hp => ?_) (fun hp => ?_)) <;> try simp only [hp]) | with_reducible refine wantQ_beq (fun hp => ?_) (fun hp => ?_) | ((with_reducible refine condQ_split (fun hp => ?_) (fun hp => ?_)) <;> try simp only [hp]) | ((with_reducible refine wantQ_split (fun hp => ?_) (fun hp => ?_)) <;> try simp only [hp]) | simp -implicitDefEqProofs (disch := omega) only [go_sem, Nat.reduceAdd, Nat.reduceSub, reduceCtorEq, Nat.reduceLT, Nat.reduceLeDiff, Nat.reduceEqDiff, Nat.reduceMul, Int.reduceToNat, ↓reduceIte, List.take_of_length_le, evApp_n1, evApp_i0, evApp_i1, evApp_i2, evApp_i3, evApp_i4, evApp_i5, evApp_s0, evApp_s1, evApp_s2, evApp_s3, if_pos, if_neg, decide_eq_true, decide_eq_false, beq_t, beq_f, wrap_succ, wrap_in, getD_ints, getD_intss, getD_tsrs, fillA_len, fillA_at, fillA_full, evApp_z0, evApp_z1, evApp_z2, evApp_z3, evApp_i6, List.getElem?_set_self, List.set_set, Try.ntmps14, Try.results14, n6, opQ_none])
            refine InlK_intro rfl rfl can_toI (callX (oI out (by omega)) (by simp only [go_sem, ints]) ?_)
            rintro p18 X18 hp18 hX18
            have d18 := one_new hp18 hX18
            have a18 := (a16.gx hX17).gx hX18
            have b18 := b17.gx hX18
            have z18 := gxA hX18 (gxA hX17 (gxA hX16 z15))
            have y18 := gxA hX18 (gxA hX17 (gxA hX16 y15))
            have w18b := gxA hX18 (gxA hX17 (gxA hX16 w15b))
            have q9 := expS_holdT a18
            have q10 := expS_holdI b18
            repeat' (first | with_reducible refine RegQ.intro (by kernel_rfl) ?_ | with_reducible refine DrawQ.nat (by kernel_rfl) ?_ | ((with_reducible refine condQ_dec (fun hp => ?_) (fun hp => ?_)) <;> try simp only [hp]) | with_reducible refine condQ_beq (fun hp => ?_) (fun hp => ?_) | ((with_reducible refine wantQ_dec (fun hp => ?_) (fun hp => ?_)) <;> try simp only [hp]) | with_reducible refine wantQ_beq (fun hp => ?_) (fun hp => ?_) | ((with_reducible refine condQ_split (fun hp => ?_) (fun hp => ?_)) <;> try simp only [hp]) | ((with_reducible refine wantQ_split (fun hp => ?_) (fun hp => ?_)) <;> try simp only [hp]) | simp -implicitDefEqProofs (disch := omega) only [go_sem, Nat.reduceAdd, Nat.reduceSub, reduceCtorEq, Nat.reduceLT, Nat.reduceLeDiff, Nat.reduceEqDiff, Nat.reduceMul, Int.reduceToNat, ↓reduceIte, List.take_of_length_le, evApp_n1, evApp_i0, evApp_i1, evApp_i2, evApp_i3, evApp_i4, evApp_i5, evApp_s0, evApp_s1, evApp_s2, evApp_s3, if_pos, if_neg, decide_eq_true, decide_eq_false, beq_t, beq_f, wrap_succ, wrap_in, getD_ints, getD_intss, getD_tsrs, fillA_len, fillA_at, fillA_full, evApp_z0, evApp_z1, evApp_z2, evApp_z3, evApp_i6, List.getElem?_set_self, List.set_set, Try.ntmps14, Try.results14, n7, opQ_none])
            refine InlK_intro rfl rfl can_conI (callX oC' (by simp only [go_sem, ints, a18.1, b18.1, d18, q9, q10]) ?_)
            rintro p19 X19 hp19 hX19
            have w19 : X19[p19]? = some ⟨1, vl.map fun n => .int .i64 n⟩ := one_new hp19 hX19
            have v19b := fun A : Blk => gx1 (A := A) w19
            have z19 := fun A : Blk => gx1 (A := A) (gxA hX19 z18)
            have y19 := fun A : Blk => gx1 (A := A) (gxA hX19 y18)
            have w19b := fun A : Blk => gx1 (A := A) (gxA hX19 w18b)
            rw [show oR (⟨[], vl⟩, true) p19 = .tup [.agg [.nilS, .sl p19 vl.length 0 vl.length vl.length], .bool true] from rfl]
            repeat' (first | with_reducible refine RegQ.intro (by kernel_rfl) ?_ | with_reducible refine DrawQ.nat (by kernel_rfl) ?_ | ((with_reducible refine condQ_dec (fun hp => ?_) (fun hp => ?_)) <;> try simp only [hp]) | with_reducible refine condQ_beq (fun hp => ?_) (fun hp => ?_) | ((with_reducible refine wantQ_dec (fun hp => ?_) (fun hp => ?_)) <;> try simp only [hp]) | with_reducible refine wantQ_beq (fun hp => ?_) (fun hp => ?_) | ((with_reducible refine condQ_split (fun hp => ?_) (fun hp => ?_)) <;> try simp only [hp]) | ((with_reducible refine wantQ_split (fun hp => ?_) (fun hp => ?_)) <;> try simp only [hp]) | simp -implicitDefEqProofs (disch := omega) only [go_sem, Nat.reduceAdd, Nat.reduceSub, reduceCtorEq, Nat.reduceLT, Nat.reduceLeDiff, Nat.reduceEqDiff, Nat.reduceMul, Int.reduceToNat, ↓reduceIte, List.take_of_length_le, evApp_n1, evApp_i0, evApp_i1, evApp_i2, evApp_i3, evApp_i4, evApp_i5, evApp_s0, evApp_s1, evApp_s2, evApp_s3, if_pos, if_neg, decide_eq_true, decide_eq_false, beq_t, beq_f, wrap_succ, wrap_in, getD_ints, getD_intss, getD_tsrs, fillA_len, fillA_at, fillA_full, evApp_z0, evApp_z1, evApp_z2, evApp_z3, evApp_i6, List.getElem?_set_self, List.set_set, Try.ntmps14, Try.results14, h11, h12, z19, y19, w19b, v19b, u8, dec_tsr0, u9, mks_len, mks_take, w2, tk_app])
        · cases o with
          | false => exact absurd (by rw [ho rfl]) hsh
          | true =>
            have w7 := two_new hn7 (hX7.trans (by rw [oN_cons hsh]))
            have l7 := two_len hn7 (hX7.trans (by rw [oN_cons hsh]))
            have w8a := fun A : Blk => gx1 (A := A) w7.1
            have w8b := fun A : Blk => gx1 (A := A) w7.2
            simp only [oR_cons hsh]
            repeat' (first | with_reducible refine RegQ.intro (by kernel_rfl) ?_ | with_reducible refine DrawQ.nat (by kernel_rfl) ?_ | ((with_reducible refine condQ_dec (fun hp => ?_) (fun hp => ?_)) <;> try simp only [hp]) | with_reducible refine condQ_beq (fun hp => ?_) (fun hp => ?_) | ((with_reducible refine wantQ_dec (fun hp => ?_) (fun hp => ?_)) <;> try simp only [hp]) | with_reducible refine wantQ_beq (fun hp => ?_) (fun hp => ?_) | ((with_reducible refine condQ_split (fun hp => ?_) (fun hp => ?_)) <;> try simp only [hp]) | ((with_reducible refine wantQ_split (fun hp => ?_) (fun hp => ?_)) <;> try simp only [hp]) | simp -implicitDefEqProofs (disch := omega) only [go_sem, Nat.reduceAdd, Nat.reduceSub, reduceCtorEq, Nat.reduceLT, Nat.reduceLeDiff, Nat.reduceEqDiff, Nat.reduceMul, Int.reduceToNat, ↓reduceIte, List.take_of_length_le, evApp_n1, evApp_i0, evApp_i1, evApp_i2, evApp_i3, evApp_i4, evApp_i5, evApp_s0, evApp_s1, evApp_s2, evApp_s3, if_pos, if_neg, decide_eq_true, decide_eq_false, beq_t, beq_f, wrap_succ, wrap_in, getD_ints, getD_intss, getD_tsrs, fillA_len, fillA_at, fillA_full, evApp_z0, evApp_z1, evApp_z2, evApp_z3, evApp_i6, List.getElem?_set_self, List.set_set, Try.ntmps14, Try.results14, h11, w8, w8a, w8b, u8, n4, opQ_none, tk_app])
            refine InlK_intro rfl rfl can_toTS (callX (oT l k1 k2) (by simp only [go_sem, ints]) ?_)
            rintro p9 X9 hp9 hX9
            have l8 : (X7 ++ [(⟨2, [tsrA p7 (p7 + 1) t]⟩ : Blk)]).length = X7.length + 1 := by simp
            have s1 := holdT_new hp9 hX9
            have l9 := holdT_len hp9 hX9
            have a9 := (a7.gx (N := [⟨2, [tsrA p7 (p7 + 1) t]⟩]) rfl).gx hX9
            have b9 := (b7.gx (N := [⟨2, [tsrA p7 (p7 + 1) t]⟩]) rfl).gx hX9
            have d9 := gxA hX9 (gx1 d7)
            have z9 := gxA hX9 (w8 _)
            have w9a := gxA hX9 (w8a _)
            have w9b := gxA hX9 (w8b _)
            have y9 := gxA hX9 gxl
            have q5 := expS_holdT a9
            have q6 := expS_holdT s1
            repeat' (first | with_reducible refine RegQ.intro (by kernel_rfl) ?_ | with_reducible refine DrawQ.nat (by kernel_rfl) ?_ | ((with_reducible refine condQ_dec (fun hp => ?_) (fun hp => ?_)) <;> try simp only [hp]) | with_reducible refine condQ_beq (fun hp => ?_) (fun hp => ?_) | ((with_reducible refine wantQ_dec (fun hp => ?_) (fun hp => ?_)) <;> try simp only [hp]) | with_reducible refine wantQ_beq (fun hp => ?_) (fun hp => ?_) | ((with_reducible refine condQ_split (fun hp => ?_) (fun hp => ?_)) <;> try simp only [hp]) | ((with_reducible refine wantQ_split (fun hp => ?_) (fun hp => ?_)) <;> try simp only [hp]) | simp -implicitDefEqProofs (disch := omega) only [go_sem, Nat.reduceAdd, Nat.reduceSub, reduceCtorEq, Nat.reduceLT, Nat.reduceLeDiff, Nat.reduceEqDiff, Nat.reduceMul, Int.reduceToNat, ↓reduceIte, List.take_of_length_le, evApp_n1, evApp_i0, evApp_i1, evApp_i2, evApp_i3, evApp_i4, evApp_i5, evApp_s0, evApp_s1, evApp_s2, evApp_s3, if_pos, if_neg, decide_eq_true, decide_eq_false, beq_t, beq_f, wrap_succ, wrap_in, getD_ints, getD_intss, getD_tsrs, fillA_len, fillA_at, fillA_full, evApp_z0, evApp_z1, evApp_z2, evApp_z3, evApp_i6, List.getElem?_set_self, List.set_set, Try.ntmps14, Try.results14, h8, a9.1, s1.1, q5, q6, u5, n5, opQ_none])
            refine InlK_intro rfl rfl can_toISS (callX (oS b m1' m2') (by simp only [go_sem, ints]) ?_)
            rintro p10 X10 hp10 hX10
            have s2 := holdI_new hp10 hX10
            have l10 := holdI_len hp10 hX10
            have b10 := b9.gx hX10
            have q7 := expS_holdI b10
            have q8 := expS_holdI s2
            repeat' (first | with_reducible refine RegQ.intro (by kernel_rfl) ?_ | with_reducible refine DrawQ.nat (by kernel_rfl) ?_ | ((with_reducible refine condQ_dec (fun hp => ?_) (fun hp => ?_)) <;> try simp only [hp]) | with_reducible refine condQ_beq (fun hp => ?_) (fun hp => ?_) | ((with_reducible refine wantQ_dec (fun hp => ?_) (fun hp => ?_)) <;> try simp only [hp]) | with_reducible refine wantQ_beq (fun hp => ?_) (fun hp => ?_) | ((with_reducible refine condQ_split (fun hp => ?_) (fun hp => ?_)) <;> try simp only [hp]) | ((with_reducible refine wantQ_split (fun hp => ?_) (fun hp => ?_)) <;> try simp only [hp]) | simp -implicitDefEqProofs (disch := omega) only [go_sem, Nat.reduceAdd, Nat.reduceSub, reduceCtorEq, Nat.reduceLT, Nat.reduceLeDiff, Nat.reduceEqDiff, Nat.reduceMul, Int.reduceToNat, ↓reduceIte, List.take_of_length_le, evApp_n1, evApp_i0, evApp_i1, evApp_i2, evApp_i3, evApp_i4, evApp_i5, evApp_s0, evApp_s1, evApp_s2, evApp_s3, if_pos, if_neg, decide_eq_true, decide_eq_false, beq_t, beq_f, wrap_succ, wrap_in, getD_ints, getD_intss, getD_tsrs, fillA_len, fillA_at, fillA_full, evApp_z0, evApp_z1, evApp_z2, evApp_z3, evApp_i6, List.getElem?_set_self, List.set_set, Try.ntmps14, Try.results14, h9, b10.1, s2.1, q7, q8, u6, n6, opQ_none])
            refine InlK_intro rfl rfl can_toI (callX (oI out (by omega)) (by simp only [go_sem, ints]) ?_)
            rintro p11 X11 hp11 hX11
            have s3 := one_new hp11 hX11
            have l11 := one_len hp11 hX11
            have d11 := gxA hX11 (gxA hX10 d9)
            have a11 := (a9.gx hX10).gx hX11
            have b11 := b10.gx hX11
            have z11 := gxA hX11 (gxA hX10 z9)
            have y11 := gxA hX11 (gxA hX10 y9)
            have w11a := gxA hX11 (gxA hX10 w9a)
            have w11b := gxA hX11 (gxA hX10 w9b)
            have e4 : p4 = X3.length + 1 := by simpa using hn4
            repeat' (first | with_reducible refine RegQ.intro (by kernel_rfl) ?_ | with_reducible refine DrawQ.nat (by kernel_rfl) ?_ | ((with_reducible refine condQ_dec (fun hp => ?_) (fun hp => ?_)) <;> try simp only [hp]) | with_reducible refine condQ_beq (fun hp => ?_) (fun hp => ?_) | ((with_reducible refine wantQ_dec (fun hp => ?_) (fun hp => ?_)) <;> try simp only [hp]) | with_reducible refine wantQ_beq (fun hp => ?_) (fun hp => ?_) | ((with_reducible refine condQ_split (fun hp => ?_) (fun hp => ?_)) <;> try simp only [hp]) | ((with_reducible refine wantQ_split (fun hp => ?_) (fun hp => ?_)) <;> try simp only [hp]) | simp -implicitDefEqProofs (disch := omega) only [go_sem, Nat.reduceAdd, Nat.reduceSub, reduceCtorEq, Nat.reduceLT, Nat.reduceLeDiff, Nat.reduceEqDiff, Nat.reduceMul, Int.reduceToNat, ↓reduceIte, List.take_of_length_le, evApp_n1, evApp_i0, evApp_i1, evApp_i2, evApp_i3, evApp_i4, evApp_i5, evApp_s0, evApp_s1, evApp_s2, evApp_s3, if_pos, if_neg, decide_eq_true, decide_eq_false, beq_t, beq_f, wrap_succ, wrap_in, getD_ints, getD_intss, getD_tsrs, fillA_len, fillA_at, fillA_full, evApp_z0, evApp_z1, evApp_z2, evApp_z3, evApp_i6, List.getElem?_set_self, List.set_set, Try.ntmps14, Try.results14, h10, d11, s3, u7, m1, opQ_none])
            refine InlK_intro rfl rfl can_markTS ((iT l 1 p4 X11 a11 k1 k2 (by omega)).mono ?_)
            rintro r Y1 ⟨v1, rfl, ⟨v1a, v1b⟩, t1⟩
            have b12 := t1.holdI b11 (by omega)
            have d12 := t1.get d11 (by omega)
            have z12 := t1.get z11 (by omega)
            have y12 := t1.get y11 (by omega)
            have w12a := t1.get w11a (by omega)
            have w12b := t1.get w11b (by omega)
            repeat' (first | with_reducible refine RegQ.intro (by kernel_rfl) ?_ | with_reducible refine DrawQ.nat (by kernel_rfl) ?_ | ((with_reducible refine condQ_dec (fun hp => ?_) (fun hp => ?_)) <;> try simp only [hp]) | with_reducible refine condQ_beq (fun hp => ?_) (fun hp => ?_) | ((with_reducible refine wantQ_dec (fun hp => ?_) (fun hp => ?_)) <;> try simp only [hp]) | with_reducible refine wantQ_beq (fun hp => ?_) (fun hp => ?_) | ((with_reducible refine condQ_split (fun hp => ?_) (fun hp => ?_)) <;> try simp only [hp]) | ((with_reducible refine wantQ_split (fun hp => ?_) (fun hp => ?_)) <;> try simp only [hp]) | simp -implicitDefEqProofs (disch := omega) only [go_sem, Nat.reduceAdd, Nat.reduceSub, reduceCtorEq, Nat.reduceLT, Nat.reduceLeDiff, Nat.reduceEqDiff, Nat.reduceMul, Int.reduceToNat, ↓reduceIte, List.take_of_length_le, evApp_n1, evApp_i0, evApp_i1, evApp_i2, evApp_i3, evApp_i4, evApp_i5, evApp_s0, evApp_s1, evApp_s2, evApp_s3, if_pos, if_neg, decide_eq_true, decide_eq_false, beq_t, beq_f, wrap_succ, wrap_in, getD_ints, getD_intss, getD_tsrs, fillA_len, fillA_at, fillA_full, evApp_z0, evApp_z1, evApp_z2, evApp_z3, evApp_i6, List.getElem?_set_self, List.set_set, Try.ntmps14, Try.results14, m2, opQ_none])
            refine InlK_intro rfl rfl can_markISS ((iS b v1 p5 Y1 b12 m1' m2' (by omega)).mono ?_)
            rintro r Y2 ⟨v2, rfl, ⟨v2a, v2b⟩, t2⟩
            have d13 := t2.get d12 (by omega)
            have z13 := t2.get z12 (by omega)
            have y13 := t2.get y12 (by omega)
            have w13a := t2.get w12a (by omega)
            have w13b := t2.get w12b (by omega)
            repeat' (first | with_reducible refine RegQ.intro (by kernel_rfl) ?_ | with_reducible refine DrawQ.nat (by kernel_rfl) ?_ | ((with_reducible refine condQ_dec (fun hp => ?_) (fun hp => ?_)) <;> try simp only [hp]) | with_reducible refine condQ_beq (fun hp => ?_) (fun hp => ?_) | ((with_reducible refine wantQ_dec (fun hp => ?_) (fun hp => ?_)) <;> try simp only [hp]) | with_reducible refine wantQ_beq (fun hp => ?_) (fun hp => ?_) | ((with_reducible refine condQ_split (fun hp => ?_) (fun hp => ?_)) <;> try simp only [hp]) | ((with_reducible refine wantQ_split (fun hp => ?_) (fun hp => ?_)) <;> try simp only [hp]) | simp -implicitDefEqProofs (disch := omega) only [go_sem, Nat.reduceAdd, Nat.reduceSub, reduceCtorEq, Nat.reduceLT, Nat.reduceLeDiff, Nat.reduceEqDiff, Nat.reduceMul, Int.reduceToNat, ↓reduceIte, List.take_of_length_le, evApp_n1, evApp_i0, evApp_i1, evApp_i2, evApp_i3, evApp_i4, evApp_i5, evApp_s0, evApp_s1, evApp_s2, evApp_s3, if_pos, if_neg, decide_eq_true, decide_eq_false, beq_t, beq_f, wrap_succ, wrap_in, getD_ints, getD_intss, getD_tsrs, fillA_len, fillA_at, fillA_full, evApp_z0, evApp_z1, evApp_z2, evApp_z3, evApp_i6, List.getElem?_set_self, List.set_set, Try.ntmps14, Try.results14, m3, opQ_none])
            refine InlK_intro rfl rfl can_markI ((iI out v2 p6 Y2 d13 (by omega) (by omega)).mono ?_)
            rintro r Y3 ⟨rfl, hY3⟩
            have t3 : sameOut Y2 Y3 p6 (p6 + 1) := by
              subst hY3
              exact sameOut.set (L := Y2) (L' := Y2) (lo := p6) (hi := p6) ⟨rfl, fun _ _ => rfl⟩ (Nat.le_refl _) _ (by omega) (by omega)
            have z14 := t3.get z13 (by omega)
            have y14 := t3.get y13 (by omega)
            have w14a := t3.get w13a (by omega)
            have w14b := t3.get w13b (by omega)
            clear hY3
            have w1 : ¬ (v2 + (out.length : Int) < 0) := by omega
            repeat' (first | with_reducible refine RegQ.intro (by kernel_rfl) ?_ | with_reducible refine DrawQ.nat (by kernel_rfl) ?_ | ((with_reducible refine condQ_dec (fun hp => ?_) (fun hp => ?_)) <;> try simp only [hp]) | with_reducible refine condQ_beq (fun hp => ?_) (fun hp => ?_) | ((with_reducible refine wantQ_dec (fun hp => ?_) (fun hp => ?_)) <;> try simp only [hp]) | with_reducible refine wantQ_beq (fun hp => ?_) (fun hp => ?_) | ((with_reducible refine condQ_split (fun hp => ?_) (fun hp => ?_)) <;> try simp only [hp]) | ((with_reducible refine wantQ_split (fun hp => ?_) (fun hp => ?_)) <;> try simp only [hp]) | simp -implicitDefEqProofs (disch := omega) only [go_sem, Nat.reduceAdd, Nat.reduceSub, reduceCtorEq, Nat.reduceLT, Nat.reduceLeDiff, Nat.reduceEqDiff, Nat.reduceMul, Int.reduceToNat, ↓reduceIte, List.take_of_length_le, evApp_n1, evApp_i0, evApp_i1, evApp_i2, evApp_i3, evApp_i4, evApp_i5, evApp_s0, evApp_s1, evApp_s2, evApp_s3, if_pos, if_neg, decide_eq_true, decide_eq_false, beq_t, beq_f, wrap_succ, wrap_in, getD_ints, getD_intss, getD_tsrs, fillA_len, fillA_at, fillA_full, evApp_z0, evApp_z1, evApp_z2, evApp_z3, evApp_i6, List.getElem?_set_self, List.set_set, Try.ntmps14, Try.results14, h11, z14, y14, w14a, w14b, u8, w1, m4, opQ_none])
            refine InlK_intro rfl rfl can_markT ((iM t 1 p7 (p7 + 1) Y3 w14a w14b (by omega) ⟨by omega, by omega⟩ (by omega)).mono ?_)
            rintro r Y4 ⟨rfl, hY4⟩
            have hb1 : p7 < Y3.length := (List.getElem?_eq_some_iff.1 w14a).1
            have hb2 : p7 + 1 < Y3.length := (List.getElem?_eq_some_iff.1 w14b).1
            have w15a := gxA hY4 (show ((Y3.set p7 ⟨1, (mks 1 t.sh.length).map fun n => .int .i64 n⟩).set (p7 + 1) ⟨1, (mks (1 + t.sh.length) t.vl.length).map fun n => .int .i64 n⟩)[p7]? = some ⟨1, (mks 1 t.sh.length).map fun n => .int .i64 n⟩ by rw [List.getElem?_set_ne (by omega), List.getElem?_set_self hb1])
            have w15b := gxA hY4 (show ((Y3.set p7 ⟨1, (mks 1 t.sh.length).map fun n => .int .i64 n⟩).set (p7 + 1) ⟨1, (mks (1 + t.sh.length) t.vl.length).map fun n => .int .i64 n⟩)[p7 + 1]? = some ⟨1, (mks (1 + t.sh.length) t.vl.length).map fun n => .int .i64 n⟩ by rw [List.getElem?_set_self (by simpa using hb2)])
            have z15 := gxA hY4 (show ((Y3.set p7 ⟨1, (mks 1 t.sh.length).map fun n => .int .i64 n⟩).set (p7 + 1) ⟨1, (mks (1 + t.sh.length) t.vl.length).map fun n => .int .i64 n⟩)[X3.length]? = _ by rw [List.getElem?_set_ne (by omega), List.getElem?_set_ne (by omega)]; exact z14)
            have y15 := gxA hY4 (show ((Y3.set p7 ⟨1, (mks 1 t.sh.length).map fun n => .int .i64 n⟩).set (p7 + 1) ⟨1, (mks (1 + t.sh.length) t.vl.length).map fun n => .int .i64 n⟩)[X7.length]? = _ by rw [List.getElem?_set_ne (by omega), List.getElem?_set_ne (by omega)]; exact y14)
            clear hY4
            have u9 := gHeldT_eq (x := ⟨mks 1 t.sh.length, mks (1 + t.sh.length) t.vl.length⟩) (k := 1) ⟨by simp only [mks_len]; omega, by simp only [mks_len]; omega, by omega, by omega, by simp only [mks_len], by simp only [mks_len]⟩
            simp only [mks_len] at u9
            have w2 : ¬ ((1 : Int) + t.sh.length + t.vl.length < 0) := by omega
            repeat' (first | with_reducible refine RegQ.intro (by kernel_rfl) ?_ | with_reducible refine DrawQ.nat (by kernel_rfl) ?_ | ((with_reducible refine condQ_dec (fun hp => ?_) (fun hp => ?_)) <;> try simp only [hp]) | with_reducible refine condQ_beq (fun hp => ?_) (fun hp => ?_) | ((with_reducible refine wantQ_dec (fun hp => ?_) (fun hp => ?_)) <;> try simp only [hp]) | with_reducible refine wantQ_beq (fun hp => ?_) (fun hp => ?_) | ((with_reducible refine condQ_split (fun hp => ?_) (fun hp => ?_)) <;> try simp only [hp]) | ((with_reducible refine wantQ_split (fun hp => ?_) (fun hp => ?_)) <;> try simp only [hp]) | simp -implicitDefEqProofs (disch := omega) only [go_sem, Nat.reduceAdd, Nat.reduceSub, reduceCtorEq, Nat.reduceLT, Nat.reduceLeDiff, Nat.reduceEqDiff, Nat.reduceMul, Int.reduceToNat, ↓reduceIte, List.take_of_length_le, evApp_n1, evApp_i0, evApp_i1, evApp_i2, evApp_i3, evApp_i4, evApp_i5, evApp_s0, evApp_s1, evApp_s2, evApp_s3, if_pos, if_neg, decide_eq_true, decide_eq_false, beq_t, beq_f, wrap_succ, wrap_in, getD_ints, getD_intss, getD_tsrs, fillA_len, fillA_at, fillA_full, evApp_z0, evApp_z1, evApp_z2, evApp_z3, evApp_i6, List.getElem?_set_self, List.set_set, Try.ntmps14, Try.results14, h12, mks_len, mks_take, z15, y15, w15a, w15b, u9, w2, n4, opQ_none])
            refine InlK_intro rfl rfl can_toTS (callX (oT l k1 k2) (by simp only [go_sem, ints]) ?_)
            rintro p16 X16 hp16 hX16
            have a16 := holdT_new hp16 hX16
            have l16 := holdT_len hp16 hX16
            repeat' (first | with_reducible refine RegQ.intro (by kernel_rfl) ?_ | with_reducible refine DrawQ.nat (by kernel_rfl) ?_ | ((with_reducible refine condQ_dec (fun hp => ?_) (fun hp => ?_)) <;> try simp only [hp]) | with_reducible refine condQ_beq (fun hp => ?_) (fun hp => ?_) | ((with_reducible refine wantQ_dec (fun hp => ?_) (fun hp => ?_)) <;> try simp only [hp]) | with_reducible refine wantQ_beq (fun hp => ?_) (fun hp => ?_) | ((with_reducible refine condQ_split (fun hp => ?_) (fun hp => ?_)) <;> try simp only [hp]) | ((with_reducible refine wantQ_split (fun hp => ?_) (fun hp => ?_)) <;> try simp only [hp]) | simp -implicitDefEqProofs (disch := omega) only [go_sem, Nat.reduceAdd, Nat.reduceSub, reduceCtorEq, Nat.reduceLT, Nat.reduceLeDiff, Nat.reduceEqDiff, Nat.reduceMul, Int.reduceToNat, ↓reduceIte, List.take_of_length_le, evApp_n1, evApp_i0, evApp_i1, evApp_i2, evApp_i3, evApp_i4, evApp_i5, evApp_s0, evApp_s1, evApp_s2, evApp_s3, if_pos, if_neg, decide_eq_true, decide_eq_false, beq_t, beq_f, wrap_succ, wrap_in, getD_ints, getD_intss, getD_tsrs, fillA_len, fillA_at, fillA_full, evApp_z0, evApp_z1, evApp_z2, evApp_z3, evApp_i6, List.getElem?_set_self, List.set_set, Try.ntmps14, Try.results14, n5, opQ_none])
            refine InlK_intro rfl rfl can_toISS (callX (oS b m1' m2') (by simp only [go_sem, ints]) ?_)
            rintro p17 X17 hp17 hX17
            have b17 := holdI_new hp17 hX17
            have l17 := holdI_len hp17 hX17
            repeat' (first | with_reducible refine RegQ.intro (by kernel_rfl) ?_ | with_reducible refine DrawQ.nat (by kernel_rfl) ?_ | ((with_reducible refine condQ_dec (fun hp => ?_) (fun hp => ?_)) <;> try simp only [hp]) | with_reducible refine condQ_beq (fun hp => ?_) (fun hp => ?_) | ((with_reducible refine wantQ_dec (fun hp => ?_) (fun hp => ?_)) <;> try simp only [hp]) | with_reducible refine wantQ_beq (fun hp => ?_) (fun hp => ?_) | ((with_reducible refine condQ_split (fun hp => ?_) (fun hp => ?_)) <;> try simp only [hp]) | ((with_reducible refine wantQ_split (fun hp => ?_) (fun hp => ?_)) <;> try simp only [hp]) | simp -implicitDefEqProofs (disch := omega) only [go_sem, Nat.reduceAdd, Nat.reduceSub, reduceCtorEq, Nat.reduceLT, Nat.reduceLeDiff, Nat.reduceEqDiff, Nat.reduceMul, Int.reduceToNat, ↓reduceIte, List.take_of_length_le, evApp_n1, evApp_i0, evApp_i1, evApp_i2, evApp_i3, evApp_i4, evApp_i5, evApp_s0, evApp_s1, evApp_s2, evApp_s3, if_pos, if_neg, decide_eq_true, decide_eq_false, beq_t, beq_f, wrap_succ, wrap_in, getD_ints, getD_intss, getD_tsrs, fillA_len, fillA_at, fillA_full, evApp_z0, evApp_z1, evApp_z2, evApp_z3, evApp_i6, List.getElem?_set_self, List.set_set, Try.ntmps14, Try.results14, n6, opQ_none])
            refine InlK_intro rfl rfl can_toI (callX (oI out (by omega)) (by simp only [go_sem, ints]) ?_)
            rintro p18 X18 hp18 hX18
            have d18 := one_new hp18 hX18
            have a18 := (a16.gx hX17).gx hX18
            have b18 := b17.gx hX18
            have z18 := gxA hX18 (gxA hX17 (gxA hX16 z15))
            have y18 := gxA hX18 (gxA hX17 (gxA hX16 y15))
            have w18a := gxA hX18 (gxA hX17 (gxA hX16 w15a))
            have w18b := gxA hX18 (gxA hX17 (gxA hX16 w15b))
            have q9 := expS_holdT a18
            have q10 := expS_holdI b18
            repeat' (first | with_reducible refine RegQ.intro (by kernel_rfl) ?_ | with_reducible refine DrawQ.nat (by kernel_rfl) ?_ | ((with_reducible refine condQ_dec (fun hp => ?_) (fun hp => ?_)) <;> try simp only [hp]) | with_reducible refine condQ_beq (fun hp => ?_) (fun hp => ?_) | ((with_reducible refine wantQ_dec (fun hp => ?_) (fun hp => ?_)) <;> try simp only [hp]) | with_reducible refine wantQ_beq (fun hp => ?_) (fun hp => ?_) | ((with_reducible refine condQ_split (fun hp => ?_) (fun hp => ?_)) <;> try simp only [hp]) | ((with_reducible refine wantQ_split (fun hp => ?_) (fun hp => ?_)) <;> try simp only [hp]) | simp -implicitDefEqProofs (disch := omega) only [go_sem, Nat.reduceAdd, Nat.reduceSub, reduceCtorEq, Nat.reduceLT, Nat.reduceLeDiff, Nat.reduceEqDiff, Nat.reduceMul, Int.reduceToNat, ↓reduceIte, List.take_of_length_le, evApp_n1, evApp_i0, evApp_i1, evApp_i2, evApp_i3, evApp_i4, evApp_i5, evApp_s0, evApp_s1, evApp_s2, evApp_s3, if_pos, if_neg, decide_eq_true, decide_eq_false, beq_t, beq_f, wrap_succ, wrap_in, getD_ints, getD_intss, getD_tsrs, fillA_len, fillA_at, fillA_full, evApp_z0, evApp_z1, evApp_z2, evApp_z3, evApp_i6, List.getElem?_set_self, List.set_set, Try.ntmps14, Try.results14, n7, opQ_none])
            refine InlK_intro rfl rfl can_conI (callX oC' (by simp only [go_sem, ints, a18.1, b18.1, d18, q9, q10]) ?_)
            rintro p19 X19 hp19 hX19
            have w19 := two_new hp19 (hX19.trans (by rw [oN_cons hsh]))
            have v19a := fun A : Blk => gx1 (A := A) w19.1
            have v19b := fun A : Blk => gx1 (A := A) w19.2
            have z19 := fun A : Blk => gx1 (A := A) (gxA hX19 z18)
            have y19 := fun A : Blk => gx1 (A := A) (gxA hX19 y18)
            have w19a := fun A : Blk => gx1 (A := A) (gxA hX19 w18a)
            have w19b := fun A : Blk => gx1 (A := A) (gxA hX19 w18b)
            simp only [oR_cons hsh]
            repeat' (first | with_reducible refine RegQ.intro (by kernel_rfl) ?_ | with_reducible refine DrawQ.nat (by kernel_rfl) ?_ | ((with_reducible refine condQ_dec (fun hp => ?_) (fun hp => ?_)) <;> try simp only [hp]) | with_reducible refine condQ_beq (fun hp => ?_) (fun hp => ?_) | ((with_reducible refine wantQ_dec (fun hp => ?_) (fun hp => ?_)) <;> try simp only [hp]) | with_reducible refine wantQ_beq (fun hp => ?_) (fun hp => ?_) | ((with_reducible refine condQ_split (fun hp => ?_) (fun hp => ?_)) <;> try simp only [hp]) | ((with_reducible refine wantQ_split (fun hp => ?_) (fun hp => ?_)) <;> try simp only [hp]) | simp -implicitDefEqProofs (disch := omega) only [go_sem, Nat.reduceAdd, Nat.reduceSub, reduceCtorEq, Nat.reduceLT, Nat.reduceLeDiff, Nat.reduceEqDiff, Nat.reduceMul, Int.reduceToNat, ↓reduceIte, List.take_of_length_le, evApp_n1, evApp_i0, evApp_i1, evApp_i2, evApp_i3, evApp_i4, evApp_i5, evApp_s0, evApp_s1, evApp_s2, evApp_s3, if_pos, if_neg, decide_eq_true, decide_eq_false, beq_t, beq_f, wrap_succ, wrap_in, getD_ints, getD_intss, getD_tsrs, fillA_len, fillA_at, fillA_full, evApp_z0, evApp_z1, evApp_z2, evApp_z3, evApp_i6, List.getElem?_set_self, List.set_set, Try.ntmps14, Try.results14, h11, h12, z19, y19, w19a, w19b, v19a, v19b, u8, u9, mks_len, mks_take, w2, tk_app])
end Go.Proofs.Ytbibnkgcegbmiaa
