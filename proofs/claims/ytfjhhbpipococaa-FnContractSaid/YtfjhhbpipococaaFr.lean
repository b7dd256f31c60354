/- Contracts of functions that the laws of this seat call. -/
import Derived.Test.YtfjhhbpipococaaFq
set_option linter.all false
namespace Go.Proofs.Ytfjhhbpipococaa
open Go Go.Ev Go.RowKit Go.Ev.Enc Go.Pl

/-- sums over the numbers of labels, one label after another -/
def sumV (l : List Tsr) (b : List (List Int)) (out sh e : List Int) : List Int → List Int → List Int → List Int
  | [], nums, v => stepS l b out sh nums v
  | u :: us, nums, v => (List.range (e.getD u.toNat 0).toNat).foldl (fun v (x : Nat) => sumV l b out sh e us (nums.set u.toNat x) v) v
theorem sumV_len (l : List Tsr) (b : List (List Int)) (out sh e : List Int) : ∀ (us nums v : List Int), (sumV l b out sh e us nums v).length = v.length
  | [], nums, v => by rw [sumV, stepS_len]
  | u :: us, nums, v => by
    rw [sumV]
    have : ∀ (r : List Nat) (v : List Int), (r.foldl (fun v (x : Nat) => sumV l b out sh e us (nums.set u.toNat x) v) v).length = v.length := by
      intro r
      induction r with
      | nil => intro v; rfl
      | cons x r ih => intro v; rw [List.foldl_cons, ih, sumV_len]
    exact this _ v
/-- numbers that agree but for some labels -/
def agr (us p q : List Int) : Prop := ∀ k : Nat, k < 5 → ¬ (k : Int) ∈ us → q.getD k 0 = p.getD k 0
theorem sumV_agr (l : List Tsr) (b : List (List Int)) (out sh e : List Int) : ∀ (us p q v : List Int), p.length = 5 → q.length = 5 → (∀ u ∈ us, 0 ≤ u ∧ u < 5) → agr us p q → sumV l b out sh e us q v = sumV l b out sh e us p v
  | [], p, q, v, hp, hq, _, h => by
    have : q = p := ints_ext (by omega) fun i hi => h i (by omega) (by simp)
    rw [this]
  | u :: us, p, q, v, hp, hq, hu, h => by
    have hu0 := hu u (by simp)
    rw [sumV, sumV]
    congr 1
    funext v x
    refine sumV_agr l b out sh e us _ _ v (by simp [hp]) (by simp [hq]) (fun w hw => hu w (by simp [hw])) fun k hk hm => ?_
    rw [getD_set, getD_set]
    by_cases hku : u.toNat = k
    · rw [if_pos ⟨hku, by omega⟩, if_pos ⟨hku, by omega⟩]
    · rw [if_neg (fun h => hku h.1), if_neg (fun h => hku h.1)]
      refine h k hk ?_
      rw [List.mem_cons]
      rintro (e1 | e1)
      · exact hku (by omega)
      · exact hm e1
theorem agr_set {us p q : List Int} {u x : Int} (hp : p.length = 5) (hq : q.length = 5) (hu : 0 ≤ u ∧ u < 5) (h : agr (u :: us) p q) : agr us (p.set u.toNat x) (q.set u.toNat x) := fun k hk hm => by
  rw [getD_set, getD_set]
  by_cases hku : u.toNat = k
  · rw [if_pos ⟨hku, by omega⟩, if_pos ⟨hku, by omega⟩]
  · rw [if_neg (fun h => hku h.1), if_neg (fun h => hku h.1)]
    refine h k hk ?_
    rw [List.mem_cons]
    rintro (e1 | e1)
    · exact hku (by omega)
    · exact hm e1
theorem agr_trans {us p q r : List Int} {u : Int} (h : agr (u :: us) p q) {x : Int} (hq : q.length = 5) (hu : 0 ≤ u ∧ u < 5) (h' : agr us (q.set u.toNat x) r) : agr (u :: us) p r := fun k hk hm => by
  rw [List.mem_cons, not_or] at hm
  rw [h' k hk hm.2, getD_set, if_neg (fun h => hm.1 (by omega))]
  exact h k hk (by rw [List.mem_cons, not_or]; exact hm)
/-- numbers in range, but for the labels that are still to come -/
def inBut (e us nums : List Int) : Prop := ∀ k : Nat, k < 5 → 0 ≤ e.getD k 0 → ¬ (k : Int) ∈ us → 0 ≤ nums.getD k 0 ∧ nums.getD k 0 < e.getD k 0
theorem idx_ok {s i : List Int} (hl : i.length = s.length) (h : ∀ d, d < s.length → 0 ≤ i.getD d 0 ∧ i.getD d 0 < s.getD d 0) : idxOK s i = true := idxOK_true hl fun d hd => h d (by omega)
theorem rankOf_eq {s i : List Int} (hs : shapeOK s = true) (hi : idxOK s i = true) : rankOf s i = rankW s i s.length := by rw [rankOf, hs, hi]; rfl
theorem dec_nilI : (dec (.ds 0 []) : Option (List Int)) = some [] := (ok _ _).2 rfl
theorem tsize_fi : tsize Try.prog 84 = some 1 := by kernel_rfl
theorem tagg_fi : tagg Try.prog 84 = some false := by kernel_rfl
theorem can_sum : CanCall Try.prog 75 := ⟨_, Try.func75, rfl, rfl⟩
theorem shape_of {x : Tsr} (h : tsrOK x = true) : shapeOK x.sh = true := by unfold tsrOK at h; simp only [Bool.and_eq_true] at h; exact h.1.1

/-- what the closure reads and writes -/
structure SumCtx (l : List Tsr) (b : List (List Int)) (out e used : List Int) : Prop where
  ext : ExtOK l b e
  sz : szOK l b
  ol : out.length < 4294967296
  good : goodF out e = true
  ul : ∀ u ∈ used, 0 ≤ u ∧ u < 5
  ue : ∀ u ∈ used, 0 ≤ e.getD u.toNat 0
  ud : used.Pairwise (· < ·)
  un : used.length ≤ 5
abbrev Lc0 (l : List Tsr) (b : List (List Int)) (out e used sh nums v : List Int) : List Blk :=
  [⟨1, [.ds 0 (l.map fun x => .agg [ints 0 x.sh, ints 0 x.vl])]⟩, ⟨1, [.ds 0 (b.map fun r => .ds 0 (r.map fun n => .int .i64 n))]⟩, ⟨1, [ints 0 out]⟩, ⟨2, [.agg [.nilS, .nilS]]⟩, ⟨1, [ints 1 e]⟩,
   ⟨2, [.agg [.nilS, .sl 7 v.length 0 v.length v.length]]⟩,  ⟨1, [ints 1 used]⟩, ⟨1, v.map fun n => .int .i64 n⟩, ⟨1, nums.map fun n => .int .i64 n⟩,
   ⟨1, [.sl 8 5 0 5 5]⟩, ⟨1, [.fn 75 [.ptr 6 1 0 0, .ptr 4 1 0 0, .ptr 9 1 0 0, .ptr 10 1 0 0, .ptr 0 1 0 0, .ptr 1 1 0 0, .ptr 5 1 0 0, .ptr 2 1 0 0]]⟩]
set_option maxHeartbeats 4000000 in
set_option maxRecDepth 100000 in
theorem isp_sum0 {Sg : FuncId → Option (List AV → Option AV)} (hS : Sound Try.prog Sg) (ht : Sg 76 = some (F2 gTakenOf)) (hr : Sg 66 = some (F2 gRankOf)) {l : List Tsr} {b : List (List Int)} {out e used : List Int} (hC : SumCtx l b out e used) (h0 : out = []) :
    ∀ (us : List Int) (i : Nat) (nums v : List Int), i ≤ used.length → used.drop i = us → nums.length = 5 → v.length = (prodW (tkn e out)).toNat → inBut e us nums →
      ISpec Try.prog 75 ([.int .i64 i] ++ [.ptr 6 1 0 0, .ptr 4 1 0 0, .ptr 9 1 0 0, .ptr 10 1 0 0, .ptr 0 1 0 0, .ptr 1 1 0 0, .ptr 5 1 0 0, .ptr 2 1 0 0]) (Lc0 l b out e used (tkn e out) nums v)
        (fun r L' => r = .tup [] ∧ ∃ nums', nums'.length = 5 ∧ agr us nums nums' ∧ L' = Lc0 l b out e used (tkn e out) nums' (sumV l b out (tkn e out) e us nums v)) := by
  intro us
  induction us with
  | nil =>
    intro i nums v hi hdr hn hv hin
    have hil : i = used.length := by
      have := congrArg List.length hdr
      simp at this; omega
    subst hil
    have hal : inLab e nums := fun k hk he => hin k hk he (by simp)
    have hxe := hC.ext
    have hsz := hC.sz
    have hol := hC.ol
    obtain ⟨g1, g2, g3, g4, g5⟩ := goodF_facts hC.good
    obtain ⟨o1, o2, o3⟩ := okAt_of hxe hC.good hal
    have oidx := idx_ok (by rw [tkn_len, tkn_len]) (out_rank hC.good hal)
    have osh : shapeOK (tkn e out) = true := by
      have := hC.good
      unfold goodF at this
      simp only [Bool.and_eq_true] at this
      exact this.2
    have q7 : gTakenOf nums out = some (tkn nums out) := gTakenOf_eq ⟨hol, by rw [hn]; exact labOK_idx g1 rfl⟩
    have q8 : gRankOf (tkn e out) (tkn nums out) = some (rankW (tkn e out) (tkn nums out) (tkn e out).length) := by
      rw [gRankOf_eq (by omega) (by rw [tkn_len]; exact hol), rankOf_eq osh oidx]
    have hst : stepS l b out (tkn e out) nums v = v.set (rankW (tkn e out) (tkn nums out) (tkn e out).length).toNat (IntKind.i64.wrap (v.getD (rankW (tkn e out) (tkn nums out) (tkn e out).length).toNat 0 + termS l b nums l.length)) := rfl
    have hfin : sumV l b out (tkn e out) e [] nums v = v.set (rankW (tkn e out) (tkn nums out) (tkn e out).length).toNat (IntKind.i64.wrap (v.getD (rankW (tkn e out) (tkn nums out) (tkn e out).length).toNat 0 + termS l b nums l.length)) := rfl
    generalize hrk : rankW (tkn e out) (tkn nums out) (tkn e out).length = rk at *
    rw [← hv] at o3
    have hvl : v.length ≤ 60 := by omega
    have hl3 := hxe.l3
    refine ISpec.intro Try.func75 rfl (vc_sound Try.pf hS _ _ _ ?_)
    unfold Lc0
    subst h0
    repeat' (first | with_reducible refine RegQ.intro (by kernel_rfl) ?_ | ((with_reducible refine condQ_dec (fun hp => ?_) (fun hp => ?_)) <;> try simp only [hp]) | with_reducible refine condQ_beq (fun hp => ?_) (fun hp => ?_) | ((with_reducible refine wantQ_dec (fun hp => ?_) (fun hp => ?_)) <;> try simp only [hp]) | with_reducible refine wantQ_beq (fun hp => ?_) (fun hp => ?_) | ((with_reducible refine condQ_split (fun hp => ?_) (fun hp => ?_)) <;> try simp only [hp]) | ((with_reducible refine wantQ_split (fun hp => ?_) (fun hp => ?_)) <;> try simp only [hp]) | simp -implicitDefEqProofs (disch := omega) only [go_sem, Nat.reduceAdd, Nat.reduceSub, reduceCtorEq, Nat.reduceLT, Nat.reduceLeDiff, Nat.reduceEqDiff, Nat.reduceMul, Int.reduceToNat, ↓reduceIte, List.take_of_length_le, evApp_n1, evApp_i0, evApp_i1, evApp_i2, evApp_i3, evApp_i4, evApp_i5, evApp_s0, evApp_s1, evApp_s2, evApp_s3, if_pos, if_neg, decide_eq_true, decide_eq_false, beq_t, beq_f, wrap_succ, wrap_in, getD_ints, getD_intss, getD_tsrs, fillA_len, fillA_at, fillA_full, evApp_z0, evApp_z1, evApp_z2, evApp_z3, Try.ntmps75, Try.results75])
    refine LoopQ.mixG 11 (fun t0 L0 nn ss => ∃ (m : Nat) (_ : Unit), (∃ x : Nat → AV, ss = ⟨mixL 0 (.k :: .k :: .k :: .k :: .k :: .k :: .k :: .k :: .k :: .k :: .s :: .v (i64 (termS l b nums m)) :: .s :: .s :: .k :: .k :: .k :: .k :: .k :: .k :: .k :: .k :: .k :: .k :: .k :: .s :: .s :: .s :: .s :: .s :: .s :: .s :: .s :: .s :: .s :: .s :: .s :: .s :: .s :: .s :: .k :: .k :: .v (i64 (m : Nat)) :: .s :: .s :: .s :: .s :: .s :: .s :: .s :: .s :: .s :: .s :: .s :: .s :: .s :: .s :: .s :: .s :: .s :: .s :: .s :: .s :: .k :: .k :: .k :: .k :: .k :: .k :: .k :: .k :: .k :: .k :: .k :: .k :: .k :: []) t0 x, L0⟩) ∧ (m ≤ l.length) ∧ nn = l.length - m) (by simp) ?_ ?_
    · exact ⟨_, ⟨0, (), mixI rfl, Nat.zero_le _, rfl⟩⟩
    · rintro I1 hI1 n ss ⟨m, _, ⟨x, rfl⟩, m1, rfl⟩
      by_cases hm : m < l.length
      · obtain ⟨o4, o5, o6⟩ := o1 m hm
        have b3m := hsz.2.2.1 m hm
        have b4m := hsz.2.2.2 m (by have := hxe.bl; omega)
        have hbm : m < b.length := by have := hxe.bl; omega
        have tsh := shape_of (hxe.tsr m hm)
        have q5 : gTakenOf nums (b.getD m []) = some (tkn nums (b.getD m [])) := gTakenOf_eq ⟨b4m, by rw [hn]; exact labOK_idx (hxe.lab m hbm) rfl⟩
        have tidx := idx_ok (s := (l.getD m ⟨[], []⟩).sh) (i := tkn nums (b.getD m [])) (by rw [tkn_len]; exact hxe.row m hbm) (row_rank hxe hal hm)
        have q6 : gRankOf (l.getD m ⟨[], []⟩).sh (tkn nums (b.getD m [])) = some (rankW (l.getD m ⟨[], []⟩).sh (tkn nums (b.getD m [])) (l.getD m ⟨[], []⟩).sh.length) := by
          rw [gRankOf_eq b3m.1 (by rw [tkn_len]; exact b4m), rankOf_eq tsh tidx]
        have hT2 : termS l b nums (m + 1) = IntKind.i64.wrap (termS l b nums m * (l.getD m ⟨[], []⟩).vl.getD (rankW (l.getD m ⟨[], []⟩).sh (tkn nums (b.getD m [])) (l.getD m ⟨[], []⟩).sh.length).toNat 0) := rfl
        generalize rankW (l.getD m ⟨[], []⟩).sh (tkn nums (b.getD m [])) (l.getD m ⟨[], []⟩).sh.length = rk2 at *
        repeat' (first | with_reducible refine RegQ.intro (by kernel_rfl) ?_ | ((with_reducible refine condQ_dec (fun hp => ?_) (fun hp => ?_)) <;> try simp only [hp]) | with_reducible refine condQ_beq (fun hp => ?_) (fun hp => ?_) | ((with_reducible refine wantQ_dec (fun hp => ?_) (fun hp => ?_)) <;> try simp only [hp]) | with_reducible refine wantQ_beq (fun hp => ?_) (fun hp => ?_) | ((with_reducible refine condQ_split (fun hp => ?_) (fun hp => ?_)) <;> try simp only [hp]) | ((with_reducible refine wantQ_split (fun hp => ?_) (fun hp => ?_)) <;> try simp only [hp]) | simp -implicitDefEqProofs (disch := omega) only [go_sem, Nat.reduceAdd, Nat.reduceSub, reduceCtorEq, Nat.reduceLT, Nat.reduceLeDiff, Nat.reduceEqDiff, Nat.reduceMul, Int.reduceToNat, ↓reduceIte, List.take_of_length_le, evApp_n1, evApp_i0, evApp_i1, evApp_i2, evApp_i3, evApp_i4, evApp_i5, evApp_s0, evApp_s1, evApp_s2, evApp_s3, if_pos, if_neg, decide_eq_true, decide_eq_false, beq_t, beq_f, wrap_succ, wrap_in, getD_ints, getD_intss, getD_tsrs, fillA_len, fillA_at, fillA_full, evApp_z0, evApp_z1, evApp_z2, evApp_z3, Try.ntmps75, Try.results75, ht, hr, q5, q6, ← hT2])
        exact ⟨l.length - (m + 1), by omega, hI1 _ _ ⟨m + 1, (), mixI rfl, hm, rfl⟩⟩
      · obtain rfl : m = l.length := by omega
        have q8' : gRankOf [] (tkn nums []) = some rk := q8
        repeat' (first | with_reducible refine RegQ.intro (by kernel_rfl) ?_ | ((with_reducible refine condQ_dec (fun hp => ?_) (fun hp => ?_)) <;> try simp only [hp]) | with_reducible refine condQ_beq (fun hp => ?_) (fun hp => ?_) | ((with_reducible refine wantQ_dec (fun hp => ?_) (fun hp => ?_)) <;> try simp only [hp]) | with_reducible refine wantQ_beq (fun hp => ?_) (fun hp => ?_) | ((with_reducible refine condQ_split (fun hp => ?_) (fun hp => ?_)) <;> try simp only [hp]) | ((with_reducible refine wantQ_split (fun hp => ?_) (fun hp => ?_)) <;> try simp only [hp]) | simp -implicitDefEqProofs (disch := omega) only [go_sem, Nat.reduceAdd, Nat.reduceSub, reduceCtorEq, Nat.reduceLT, Nat.reduceLeDiff, Nat.reduceEqDiff, Nat.reduceMul, Int.reduceToNat, ↓reduceIte, List.take_of_length_le, evApp_n1, evApp_i0, evApp_i1, evApp_i2, evApp_i3, evApp_i4, evApp_i5, evApp_s0, evApp_s1, evApp_s2, evApp_s3, if_pos, if_neg, decide_eq_true, decide_eq_false, beq_t, beq_f, wrap_succ, wrap_in, getD_ints, getD_intss, getD_tsrs, fillA_len, fillA_at, fillA_full, evApp_z0, evApp_z1, evApp_z2, evApp_z3, Try.ntmps75, Try.results75, ht, hr, q7, q8', dec_nilI, set_ints])
        exact ⟨nums, hn, fun _ _ _ => rfl, by rw [hfin]; simp only [Lc0, List.length_set]⟩
  | cons u us ih =>
    intro i nums v hi hdr hn hv hin
    have hil : i < used.length := by
      have := congrArg List.length hdr
      simp at this; omega
    rw [drop_getD (d := 0) hil, List.cons.injEq] at hdr
    obtain ⟨hu, hdr2⟩ := hdr
    have hum : u ∈ used := by rw [← hu]; exact gmem hil
    obtain ⟨u1, u2⟩ := hC.ul u hum
    have hue := hC.ue u hum
    have hel := hC.ext.len
    have hun := hC.un
    have hub := hC.ext.ub u.toNat
    refine ISpec.intro Try.func75 rfl (vc_sound Try.pf hS _ _ _ ?_)
    repeat' (first | with_reducible refine RegQ.intro (by kernel_rfl) ?_ | ((with_reducible refine condQ_dec (fun hp => ?_) (fun hp => ?_)) <;> try simp only [hp]) | with_reducible refine condQ_beq (fun hp => ?_) (fun hp => ?_) | ((with_reducible refine wantQ_dec (fun hp => ?_) (fun hp => ?_)) <;> try simp only [hp]) | with_reducible refine wantQ_beq (fun hp => ?_) (fun hp => ?_) | ((with_reducible refine condQ_split (fun hp => ?_) (fun hp => ?_)) <;> try simp only [hp]) | ((with_reducible refine wantQ_split (fun hp => ?_) (fun hp => ?_)) <;> try simp only [hp]) | simp -implicitDefEqProofs (disch := omega) only [go_sem, Nat.reduceAdd, Nat.reduceSub, reduceCtorEq, Nat.reduceLT, Nat.reduceLeDiff, Nat.reduceEqDiff, Nat.reduceMul, Int.reduceToNat, ↓reduceIte, List.take_of_length_le, evApp_n1, evApp_i0, evApp_i1, evApp_i2, evApp_i3, evApp_i4, evApp_i5, evApp_s0, evApp_s1, evApp_s2, evApp_s3, if_pos, if_neg, decide_eq_true, decide_eq_false, beq_t, beq_f, wrap_succ, wrap_in, getD_ints, getD_intss, getD_tsrs, fillA_len, fillA_at, fillA_full, evApp_z0, evApp_z1, evApp_z2, evApp_z3, Try.ntmps75, Try.results75, hu, getD_ints])
    refine LoopQ.mix (fun t0 L0 nn ss => ∃ (c : Nat) (q w : List Int) (_ : Unit), (∃ x : Nat → AV, ss = ⟨mixL 0 (.k :: .k :: .k :: .k :: .k :: .k :: .k :: .k :: .k :: .k :: .s :: .k :: .k :: .k :: .k :: .k :: .k :: .k :: .k :: .k :: .k :: .k :: .k :: .k :: .k :: .v (i64 (c : Nat)) :: .s :: .s :: .s :: .s :: .s :: .s :: .s :: .s :: .s :: .s :: .s :: .s :: .s :: .s :: .k :: .k :: .k :: .k :: .k :: .k :: .k :: .k :: .k :: .k :: .k :: .k :: .k :: .k :: .k :: .k :: .k :: .k :: .k :: .k :: .k :: .k :: .k :: .k :: .k :: .k :: .k :: .k :: .k :: .k :: .k :: .k :: .k :: .k :: .k :: .k :: []) t0 x, Lc0 l b out e used (tkn e out) q w⟩) ∧ (c ≤ (e.getD u.toNat 0).toNat) ∧ (q.length = 5) ∧ (agr (u :: us) nums q) ∧ (w = (List.range c).foldl (fun v (x : Nat) => sumV l b out (tkn e out) e us (nums.set u.toNat x) v) v) ∧ nn = (e.getD u.toNat 0).toNat - c) ?_ ?_
    · exact ⟨_, ⟨0, nums, v, (), mixJ rfl (rfl), Nat.zero_le _, hn, fun _ _ _ => rfl, rfl, rfl⟩⟩
    · rintro I0 hI0 n ss ⟨c, q, w, _, ⟨x, rfl⟩, m1, m2, m3, m4, rfl⟩
      by_cases hc : c < (e.getD u.toNat 0).toNat
      · have hwl : w.length = v.length := by
          rw [m4]
          clear m4
          induction c with
          | zero => rfl
          | succ c ihc => rw [List.range_succ, List.foldl_append, List.foldl_cons, List.foldl_nil, sumV_len, ihc (by omega) (by omega)]
        have hq2 : (q.set u.toNat (c : Int)).length = 5 := by simp [m2]
        have hi2 : inBut e us (q.set u.toNat (c : Int)) := fun k hk hk0 hkm => by
          rw [getD_set]
          by_cases hku : u.toNat = k
          · rw [if_pos ⟨hku, by omega⟩, ← hku]; omega
          · rw [if_neg (fun h => hku h.1)]
            have hkn : ¬ (k : Int) ∈ u :: us := by
              rw [List.mem_cons]
              rintro (e1 | e1)
              · exact hku (by omega)
              · exact hkm e1
            rw [m3 k hk hkn]
            exact hin k hk hk0 hkn
        have hI := ih (i + 1) _ w (by omega) hdr2 hq2 (by omega) hi2
        repeat' (first | with_reducible refine RegQ.intro (by kernel_rfl) ?_ | ((with_reducible refine condQ_dec (fun hp => ?_) (fun hp => ?_)) <;> try simp only [hp]) | with_reducible refine condQ_beq (fun hp => ?_) (fun hp => ?_) | ((with_reducible refine wantQ_dec (fun hp => ?_) (fun hp => ?_)) <;> try simp only [hp]) | with_reducible refine wantQ_beq (fun hp => ?_) (fun hp => ?_) | ((with_reducible refine condQ_split (fun hp => ?_) (fun hp => ?_)) <;> try simp only [hp]) | ((with_reducible refine wantQ_split (fun hp => ?_) (fun hp => ?_)) <;> try simp only [hp]) | simp -implicitDefEqProofs (disch := omega) only [go_sem, Nat.reduceAdd, Nat.reduceSub, reduceCtorEq, Nat.reduceLT, Nat.reduceLeDiff, Nat.reduceEqDiff, Nat.reduceMul, Int.reduceToNat, ↓reduceIte, List.take_of_length_le, evApp_n1, evApp_i0, evApp_i1, evApp_i2, evApp_i3, evApp_i4, evApp_i5, evApp_s0, evApp_s1, evApp_s2, evApp_s3, if_pos, if_neg, decide_eq_true, decide_eq_false, beq_t, beq_f, wrap_succ, wrap_in, getD_ints, getD_intss, getD_tsrs, fillA_len, fillA_at, fillA_full, evApp_z0, evApp_z1, evApp_z2, evApp_z3, Try.ntmps75, Try.results75, hu, getD_ints, set_ints, tsize_fi, tagg_fi])
        refine InlK_intro rfl rfl can_sum (hI.mono ?_)
        rintro r L2 ⟨rfl, nums2, k1, k2, rfl⟩
        repeat' (first | with_reducible refine RegQ.intro (by kernel_rfl) ?_ | ((with_reducible refine condQ_dec (fun hp => ?_) (fun hp => ?_)) <;> try simp only [hp]) | with_reducible refine condQ_beq (fun hp => ?_) (fun hp => ?_) | ((with_reducible refine wantQ_dec (fun hp => ?_) (fun hp => ?_)) <;> try simp only [hp]) | with_reducible refine wantQ_beq (fun hp => ?_) (fun hp => ?_) | ((with_reducible refine condQ_split (fun hp => ?_) (fun hp => ?_)) <;> try simp only [hp]) | ((with_reducible refine wantQ_split (fun hp => ?_) (fun hp => ?_)) <;> try simp only [hp]) | simp -implicitDefEqProofs (disch := omega) only [go_sem, Nat.reduceAdd, Nat.reduceSub, reduceCtorEq, Nat.reduceLT, Nat.reduceLeDiff, Nat.reduceEqDiff, Nat.reduceMul, Int.reduceToNat, ↓reduceIte, List.take_of_length_le, evApp_n1, evApp_i0, evApp_i1, evApp_i2, evApp_i3, evApp_i4, evApp_i5, evApp_s0, evApp_s1, evApp_s2, evApp_s3, if_pos, if_neg, decide_eq_true, decide_eq_false, beq_t, beq_f, wrap_succ, wrap_in, getD_ints, getD_intss, getD_tsrs, fillA_len, fillA_at, fillA_full, evApp_z0, evApp_z1, evApp_z2, evApp_z3, Try.ntmps75, Try.results75])
        exact ⟨(e.getD u.toNat 0).toNat - (c + 1), by omega, hI0 _ _ ⟨c + 1, nums2, _, (), mixJ rfl (rfl), hc, k1, agr_trans m3 m2 ⟨u1, u2⟩ k2, by rw [List.range_succ, List.foldl_append, ← m4, List.foldl_cons, List.foldl_nil]; exact sumV_agr l b out (tkn e out) e us _ _ w (by simp [hn]) hq2 (fun z hz => hC.ul z (List.mem_of_mem_drop (hdr2 ▸ hz))) (agr_set hn m2 ⟨u1, u2⟩ m3), rfl⟩⟩
      · obtain rfl : c = (e.getD u.toNat 0).toNat := by omega
        repeat' (first | with_reducible refine RegQ.intro (by kernel_rfl) ?_ | ((with_reducible refine condQ_dec (fun hp => ?_) (fun hp => ?_)) <;> try simp only [hp]) | with_reducible refine condQ_beq (fun hp => ?_) (fun hp => ?_) | ((with_reducible refine wantQ_dec (fun hp => ?_) (fun hp => ?_)) <;> try simp only [hp]) | with_reducible refine wantQ_beq (fun hp => ?_) (fun hp => ?_) | ((with_reducible refine condQ_split (fun hp => ?_) (fun hp => ?_)) <;> try simp only [hp]) | ((with_reducible refine wantQ_split (fun hp => ?_) (fun hp => ?_)) <;> try simp only [hp]) | simp -implicitDefEqProofs (disch := omega) only [go_sem, Nat.reduceAdd, Nat.reduceSub, reduceCtorEq, Nat.reduceLT, Nat.reduceLeDiff, Nat.reduceEqDiff, Nat.reduceMul, Int.reduceToNat, ↓reduceIte, List.take_of_length_le, evApp_n1, evApp_i0, evApp_i1, evApp_i2, evApp_i3, evApp_i4, evApp_i5, evApp_s0, evApp_s1, evApp_s2, evApp_s3, if_pos, if_neg, decide_eq_true, decide_eq_false, beq_t, beq_f, wrap_succ, wrap_in, getD_ints, getD_intss, getD_tsrs, fillA_len, fillA_at, fillA_full, evApp_z0, evApp_z1, evApp_z2, evApp_z3, Try.ntmps75, Try.results75])
        exact ⟨q, m2, m3, by rw [m4, sumV]⟩
abbrev Lc1 (l : List Tsr) (b : List (List Int)) (out e used sh nums v : List Int) : List Blk :=
  [⟨1, [.ds 0 (l.map fun x => .agg [ints 0 x.sh, ints 0 x.vl])]⟩, ⟨1, [.ds 0 (b.map fun r => .ds 0 (r.map fun n => .int .i64 n))]⟩, ⟨1, [ints 0 out]⟩, ⟨2, [.agg [.nilS, .nilS]]⟩, ⟨1, [ints 1 e]⟩,
   ⟨2, [.agg [.sl 6 sh.length 0 sh.length sh.length, .sl 8 v.length 0 v.length v.length]]⟩, ⟨1, sh.map fun n => .int .i64 n⟩, ⟨1, [ints 1 used]⟩, ⟨1, v.map fun n => .int .i64 n⟩, ⟨1, nums.map fun n => .int .i64 n⟩,
   ⟨1, [.sl 9 5 0 5 5]⟩, ⟨1, [.fn 75 [.ptr 7 1 0 0, .ptr 4 1 0 0, .ptr 10 1 0 0, .ptr 11 1 0 0, .ptr 0 1 0 0, .ptr 1 1 0 0, .ptr 5 1 0 0, .ptr 2 1 0 0]]⟩]
set_option maxHeartbeats 4000000 in
set_option maxRecDepth 100000 in
theorem isp_sum1 {Sg : FuncId → Option (List AV → Option AV)} (hS : Sound Try.prog Sg) (ht : Sg 76 = some (F2 gTakenOf)) (hr : Sg 66 = some (F2 gRankOf)) {l : List Tsr} {b : List (List Int)} {out e used : List Int} (hC : SumCtx l b out e used) :
    ∀ (us : List Int) (i : Nat) (nums v : List Int), i ≤ used.length → used.drop i = us → nums.length = 5 → v.length = (prodW (tkn e out)).toNat → inBut e us nums →
      ISpec Try.prog 75 ([.int .i64 i] ++ [.ptr 7 1 0 0, .ptr 4 1 0 0, .ptr 10 1 0 0, .ptr 11 1 0 0, .ptr 0 1 0 0, .ptr 1 1 0 0, .ptr 5 1 0 0, .ptr 2 1 0 0]) (Lc1 l b out e used (tkn e out) nums v)
        (fun r L' => r = .tup [] ∧ ∃ nums', nums'.length = 5 ∧ agr us nums nums' ∧ L' = Lc1 l b out e used (tkn e out) nums' (sumV l b out (tkn e out) e us nums v)) := by
  intro us
  induction us with
  | nil =>
    intro i nums v hi hdr hn hv hin
    have hil : i = used.length := by
      have := congrArg List.length hdr
      simp at this; omega
    subst hil
    have hal : inLab e nums := fun k hk he => hin k hk he (by simp)
    have hxe := hC.ext
    have hsz := hC.sz
    have hol := hC.ol
    obtain ⟨g1, g2, g3, g4, g5⟩ := goodF_facts hC.good
    obtain ⟨o1, o2, o3⟩ := okAt_of hxe hC.good hal
    have oidx := idx_ok (by rw [tkn_len, tkn_len]) (out_rank hC.good hal)
    have osh : shapeOK (tkn e out) = true := by
      have := hC.good
      unfold goodF at this
      simp only [Bool.and_eq_true] at this
      exact this.2
    have q7 : gTakenOf nums out = some (tkn nums out) := gTakenOf_eq ⟨hol, by rw [hn]; exact labOK_idx g1 rfl⟩
    have q8 : gRankOf (tkn e out) (tkn nums out) = some (rankW (tkn e out) (tkn nums out) (tkn e out).length) := by
      rw [gRankOf_eq (by omega) (by rw [tkn_len]; exact hol), rankOf_eq osh oidx]
    have hst : stepS l b out (tkn e out) nums v = v.set (rankW (tkn e out) (tkn nums out) (tkn e out).length).toNat (IntKind.i64.wrap (v.getD (rankW (tkn e out) (tkn nums out) (tkn e out).length).toNat 0 + termS l b nums l.length)) := rfl
    have hfin : sumV l b out (tkn e out) e [] nums v = v.set (rankW (tkn e out) (tkn nums out) (tkn e out).length).toNat (IntKind.i64.wrap (v.getD (rankW (tkn e out) (tkn nums out) (tkn e out).length).toNat 0 + termS l b nums l.length)) := rfl
    generalize hrk : rankW (tkn e out) (tkn nums out) (tkn e out).length = rk at *
    rw [← hv] at o3
    have hvl : v.length ≤ 60 := by omega
    have hl3 := hxe.l3
    refine ISpec.intro Try.func75 rfl (vc_sound Try.pf hS _ _ _ ?_)
    unfold Lc1
    skip
    repeat' (first | with_reducible refine RegQ.intro (by kernel_rfl) ?_ | ((with_reducible refine condQ_dec (fun hp => ?_) (fun hp => ?_)) <;> try simp only [hp]) | with_reducible refine condQ_beq (fun hp => ?_) (fun hp => ?_) | ((with_reducible refine wantQ_dec (fun hp => ?_) (fun hp => ?_)) <;> try simp only [hp]) | with_reducible refine wantQ_beq (fun hp => ?_) (fun hp => ?_) | ((with_reducible refine condQ_split (fun hp => ?_) (fun hp => ?_)) <;> try simp only [hp]) | ((with_reducible refine wantQ_split (fun hp => ?_) (fun hp => ?_)) <;> try simp only [hp]) | simp -implicitDefEqProofs (disch := omega) only [go_sem, Nat.reduceAdd, Nat.reduceSub, reduceCtorEq, Nat.reduceLT, Nat.reduceLeDiff, Nat.reduceEqDiff, Nat.reduceMul, Int.reduceToNat, ↓reduceIte, List.take_of_length_le, evApp_n1, evApp_i0, evApp_i1, evApp_i2, evApp_i3, evApp_i4, evApp_i5, evApp_s0, evApp_s1, evApp_s2, evApp_s3, if_pos, if_neg, decide_eq_true, decide_eq_false, beq_t, beq_f, wrap_succ, wrap_in, getD_ints, getD_intss, getD_tsrs, fillA_len, fillA_at, fillA_full, evApp_z0, evApp_z1, evApp_z2, evApp_z3, Try.ntmps75, Try.results75])
    refine LoopQ.mixG 12 (fun t0 L0 nn ss => ∃ (m : Nat) (_ : Unit), (∃ x : Nat → AV, ss = ⟨mixL 0 (.k :: .k :: .k :: .k :: .k :: .k :: .k :: .k :: .k :: .k :: .s :: .v (i64 (termS l b nums m)) :: .s :: .s :: .k :: .k :: .k :: .k :: .k :: .k :: .k :: .k :: .k :: .k :: .k :: .k :: .s :: .s :: .s :: .s :: .s :: .s :: .s :: .s :: .s :: .s :: .s :: .s :: .s :: .s :: .k :: .k :: .v (i64 (m : Nat)) :: .s :: .s :: .s :: .s :: .s :: .s :: .s :: .s :: .s :: .s :: .s :: .s :: .s :: .s :: .s :: .s :: .s :: .s :: .s :: .s :: .k :: .k :: .k :: .k :: .k :: .k :: .k :: .k :: .k :: .k :: .k :: .k :: .k :: []) t0 x, L0⟩) ∧ (m ≤ l.length) ∧ nn = l.length - m) (by simp) ?_ ?_
    · exact ⟨_, ⟨0, (), mixI rfl, Nat.zero_le _, rfl⟩⟩
    · rintro I1 hI1 n ss ⟨m, _, ⟨x, rfl⟩, m1, rfl⟩
      by_cases hm : m < l.length
      · obtain ⟨o4, o5, o6⟩ := o1 m hm
        have b3m := hsz.2.2.1 m hm
        have b4m := hsz.2.2.2 m (by have := hxe.bl; omega)
        have hbm : m < b.length := by have := hxe.bl; omega
        have tsh := shape_of (hxe.tsr m hm)
        have q5 : gTakenOf nums (b.getD m []) = some (tkn nums (b.getD m [])) := gTakenOf_eq ⟨b4m, by rw [hn]; exact labOK_idx (hxe.lab m hbm) rfl⟩
        have tidx := idx_ok (s := (l.getD m ⟨[], []⟩).sh) (i := tkn nums (b.getD m [])) (by rw [tkn_len]; exact hxe.row m hbm) (row_rank hxe hal hm)
        have q6 : gRankOf (l.getD m ⟨[], []⟩).sh (tkn nums (b.getD m [])) = some (rankW (l.getD m ⟨[], []⟩).sh (tkn nums (b.getD m [])) (l.getD m ⟨[], []⟩).sh.length) := by
          rw [gRankOf_eq b3m.1 (by rw [tkn_len]; exact b4m), rankOf_eq tsh tidx]
        have hT2 : termS l b nums (m + 1) = IntKind.i64.wrap (termS l b nums m * (l.getD m ⟨[], []⟩).vl.getD (rankW (l.getD m ⟨[], []⟩).sh (tkn nums (b.getD m [])) (l.getD m ⟨[], []⟩).sh.length).toNat 0) := rfl
        generalize rankW (l.getD m ⟨[], []⟩).sh (tkn nums (b.getD m [])) (l.getD m ⟨[], []⟩).sh.length = rk2 at *
        repeat' (first | with_reducible refine RegQ.intro (by kernel_rfl) ?_ | ((with_reducible refine condQ_dec (fun hp => ?_) (fun hp => ?_)) <;> try simp only [hp]) | with_reducible refine condQ_beq (fun hp => ?_) (fun hp => ?_) | ((with_reducible refine wantQ_dec (fun hp => ?_) (fun hp => ?_)) <;> try simp only [hp]) | with_reducible refine wantQ_beq (fun hp => ?_) (fun hp => ?_) | ((with_reducible refine condQ_split (fun hp => ?_) (fun hp => ?_)) <;> try simp only [hp]) | ((with_reducible refine wantQ_split (fun hp => ?_) (fun hp => ?_)) <;> try simp only [hp]) | simp -implicitDefEqProofs (disch := omega) only [go_sem, Nat.reduceAdd, Nat.reduceSub, reduceCtorEq, Nat.reduceLT, Nat.reduceLeDiff, Nat.reduceEqDiff, Nat.reduceMul, Int.reduceToNat, ↓reduceIte, List.take_of_length_le, evApp_n1, evApp_i0, evApp_i1, evApp_i2, evApp_i3, evApp_i4, evApp_i5, evApp_s0, evApp_s1, evApp_s2, evApp_s3, if_pos, if_neg, decide_eq_true, decide_eq_false, beq_t, beq_f, wrap_succ, wrap_in, getD_ints, getD_intss, getD_tsrs, fillA_len, fillA_at, fillA_full, evApp_z0, evApp_z1, evApp_z2, evApp_z3, Try.ntmps75, Try.results75, ht, hr, q5, q6, ← hT2])
        exact ⟨l.length - (m + 1), by omega, hI1 _ _ ⟨m + 1, (), mixI rfl, hm, rfl⟩⟩
      · obtain rfl : m = l.length := by omega
        have q8' := q8
        repeat' (first | with_reducible refine RegQ.intro (by kernel_rfl) ?_ | ((with_reducible refine condQ_dec (fun hp => ?_) (fun hp => ?_)) <;> try simp only [hp]) | with_reducible refine condQ_beq (fun hp => ?_) (fun hp => ?_) | ((with_reducible refine wantQ_dec (fun hp => ?_) (fun hp => ?_)) <;> try simp only [hp]) | with_reducible refine wantQ_beq (fun hp => ?_) (fun hp => ?_) | ((with_reducible refine condQ_split (fun hp => ?_) (fun hp => ?_)) <;> try simp only [hp]) | ((with_reducible refine wantQ_split (fun hp => ?_) (fun hp => ?_)) <;> try simp only [hp]) | simp -implicitDefEqProofs (disch := omega) only [go_sem, Nat.reduceAdd, Nat.reduceSub, reduceCtorEq, Nat.reduceLT, Nat.reduceLeDiff, Nat.reduceEqDiff, Nat.reduceMul, Int.reduceToNat, ↓reduceIte, List.take_of_length_le, evApp_n1, evApp_i0, evApp_i1, evApp_i2, evApp_i3, evApp_i4, evApp_i5, evApp_s0, evApp_s1, evApp_s2, evApp_s3, if_pos, if_neg, decide_eq_true, decide_eq_false, beq_t, beq_f, wrap_succ, wrap_in, getD_ints, getD_intss, getD_tsrs, fillA_len, fillA_at, fillA_full, evApp_z0, evApp_z1, evApp_z2, evApp_z3, Try.ntmps75, Try.results75, ht, hr, q7, q8', dec_nilI, set_ints])
        exact ⟨nums, hn, fun _ _ _ => rfl, by rw [hfin]; simp only [Lc1, List.length_set]⟩
  | cons u us ih =>
    intro i nums v hi hdr hn hv hin
    have hil : i < used.length := by
      have := congrArg List.length hdr
      simp at this; omega
    rw [drop_getD (d := 0) hil, List.cons.injEq] at hdr
    obtain ⟨hu, hdr2⟩ := hdr
    have hum : u ∈ used := by rw [← hu]; exact gmem hil
    obtain ⟨u1, u2⟩ := hC.ul u hum
    have hue := hC.ue u hum
    have hel := hC.ext.len
    have hun := hC.un
    have hub := hC.ext.ub u.toNat
    refine ISpec.intro Try.func75 rfl (vc_sound Try.pf hS _ _ _ ?_)
    repeat' (first | with_reducible refine RegQ.intro (by kernel_rfl) ?_ | ((with_reducible refine condQ_dec (fun hp => ?_) (fun hp => ?_)) <;> try simp only [hp]) | with_reducible refine condQ_beq (fun hp => ?_) (fun hp => ?_) | ((with_reducible refine wantQ_dec (fun hp => ?_) (fun hp => ?_)) <;> try simp only [hp]) | with_reducible refine wantQ_beq (fun hp => ?_) (fun hp => ?_) | ((with_reducible refine condQ_split (fun hp => ?_) (fun hp => ?_)) <;> try simp only [hp]) | ((with_reducible refine wantQ_split (fun hp => ?_) (fun hp => ?_)) <;> try simp only [hp]) | simp -implicitDefEqProofs (disch := omega) only [go_sem, Nat.reduceAdd, Nat.reduceSub, reduceCtorEq, Nat.reduceLT, Nat.reduceLeDiff, Nat.reduceEqDiff, Nat.reduceMul, Int.reduceToNat, ↓reduceIte, List.take_of_length_le, evApp_n1, evApp_i0, evApp_i1, evApp_i2, evApp_i3, evApp_i4, evApp_i5, evApp_s0, evApp_s1, evApp_s2, evApp_s3, if_pos, if_neg, decide_eq_true, decide_eq_false, beq_t, beq_f, wrap_succ, wrap_in, getD_ints, getD_intss, getD_tsrs, fillA_len, fillA_at, fillA_full, evApp_z0, evApp_z1, evApp_z2, evApp_z3, Try.ntmps75, Try.results75, hu, getD_ints])
    refine LoopQ.mix (fun t0 L0 nn ss => ∃ (c : Nat) (q w : List Int) (_ : Unit), (∃ x : Nat → AV, ss = ⟨mixL 0 (.k :: .k :: .k :: .k :: .k :: .k :: .k :: .k :: .k :: .k :: .s :: .k :: .k :: .k :: .k :: .k :: .k :: .k :: .k :: .k :: .k :: .k :: .k :: .k :: .k :: .v (i64 (c : Nat)) :: .s :: .s :: .s :: .s :: .s :: .s :: .s :: .s :: .s :: .s :: .s :: .s :: .s :: .s :: .k :: .k :: .k :: .k :: .k :: .k :: .k :: .k :: .k :: .k :: .k :: .k :: .k :: .k :: .k :: .k :: .k :: .k :: .k :: .k :: .k :: .k :: .k :: .k :: .k :: .k :: .k :: .k :: .k :: .k :: .k :: .k :: .k :: .k :: .k :: .k :: []) t0 x, Lc1 l b out e used (tkn e out) q w⟩) ∧ (c ≤ (e.getD u.toNat 0).toNat) ∧ (q.length = 5) ∧ (agr (u :: us) nums q) ∧ (w = (List.range c).foldl (fun v (x : Nat) => sumV l b out (tkn e out) e us (nums.set u.toNat x) v) v) ∧ nn = (e.getD u.toNat 0).toNat - c) ?_ ?_
    · exact ⟨_, ⟨0, nums, v, (), mixJ rfl (rfl), Nat.zero_le _, hn, fun _ _ _ => rfl, rfl, rfl⟩⟩
    · rintro I0 hI0 n ss ⟨c, q, w, _, ⟨x, rfl⟩, m1, m2, m3, m4, rfl⟩
      by_cases hc : c < (e.getD u.toNat 0).toNat
      · have hwl : w.length = v.length := by
          rw [m4]
          clear m4
          induction c with
          | zero => rfl
          | succ c ihc => rw [List.range_succ, List.foldl_append, List.foldl_cons, List.foldl_nil, sumV_len, ihc (by omega) (by omega)]
        have hq2 : (q.set u.toNat (c : Int)).length = 5 := by simp [m2]
        have hi2 : inBut e us (q.set u.toNat (c : Int)) := fun k hk hk0 hkm => by
          rw [getD_set]
          by_cases hku : u.toNat = k
          · rw [if_pos ⟨hku, by omega⟩, ← hku]; omega
          · rw [if_neg (fun h => hku h.1)]
            have hkn : ¬ (k : Int) ∈ u :: us := by
              rw [List.mem_cons]
              rintro (e1 | e1)
              · exact hku (by omega)
              · exact hkm e1
            rw [m3 k hk hkn]
            exact hin k hk hk0 hkn
        have hI := ih (i + 1) _ w (by omega) hdr2 hq2 (by omega) hi2
        repeat' (first | with_reducible refine RegQ.intro (by kernel_rfl) ?_ | ((with_reducible refine condQ_dec (fun hp => ?_) (fun hp => ?_)) <;> try simp only [hp]) | with_reducible refine condQ_beq (fun hp => ?_) (fun hp => ?_) | ((with_reducible refine wantQ_dec (fun hp => ?_) (fun hp => ?_)) <;> try simp only [hp]) | with_reducible refine wantQ_beq (fun hp => ?_) (fun hp => ?_) | ((with_reducible refine condQ_split (fun hp => ?_) (fun hp => ?_)) <;> try simp only [hp]) | ((with_reducible refine wantQ_split (fun hp => ?_) (fun hp => ?_)) <;> try simp only [hp]) | simp -implicitDefEqProofs (disch := omega) only [go_sem, Nat.reduceAdd, Nat.reduceSub, reduceCtorEq, Nat.reduceLT, Nat.reduceLeDiff, Nat.reduceEqDiff, Nat.reduceMul, Int.reduceToNat, ↓reduceIte, List.take_of_length_le, evApp_n1, evApp_i0, evApp_i1, evApp_i2, evApp_i3, evApp_i4, evApp_i5, evApp_s0, evApp_s1, evApp_s2, evApp_s3, if_pos, if_neg, decide_eq_true, decide_eq_false, beq_t, beq_f, wrap_succ, wrap_in, getD_ints, getD_intss, getD_tsrs, fillA_len, fillA_at, fillA_full, evApp_z0, evApp_z1, evApp_z2, evApp_z3, Try.ntmps75, Try.results75, hu, getD_ints, set_ints, tsize_fi, tagg_fi])
        refine InlK_intro rfl rfl can_sum (hI.mono ?_)
        rintro r L2 ⟨rfl, nums2, k1, k2, rfl⟩
        repeat' (first | with_reducible refine RegQ.intro (by kernel_rfl) ?_ | ((with_reducible refine condQ_dec (fun hp => ?_) (fun hp => ?_)) <;> try simp only [hp]) | with_reducible refine condQ_beq (fun hp => ?_) (fun hp => ?_) | ((with_reducible refine wantQ_dec (fun hp => ?_) (fun hp => ?_)) <;> try simp only [hp]) | with_reducible refine wantQ_beq (fun hp => ?_) (fun hp => ?_) | ((with_reducible refine condQ_split (fun hp => ?_) (fun hp => ?_)) <;> try simp only [hp]) | ((with_reducible refine wantQ_split (fun hp => ?_) (fun hp => ?_)) <;> try simp only [hp]) | simp -implicitDefEqProofs (disch := omega) only [go_sem, Nat.reduceAdd, Nat.reduceSub, reduceCtorEq, Nat.reduceLT, Nat.reduceLeDiff, Nat.reduceEqDiff, Nat.reduceMul, Int.reduceToNat, ↓reduceIte, List.take_of_length_le, evApp_n1, evApp_i0, evApp_i1, evApp_i2, evApp_i3, evApp_i4, evApp_i5, evApp_s0, evApp_s1, evApp_s2, evApp_s3, if_pos, if_neg, decide_eq_true, decide_eq_false, beq_t, beq_f, wrap_succ, wrap_in, getD_ints, getD_intss, getD_tsrs, fillA_len, fillA_at, fillA_full, evApp_z0, evApp_z1, evApp_z2, evApp_z3, Try.ntmps75, Try.results75])
        exact ⟨(e.getD u.toNat 0).toNat - (c + 1), by omega, hI0 _ _ ⟨c + 1, nums2, _, (), mixJ rfl (rfl), hc, k1, agr_trans m3 m2 ⟨u1, u2⟩ k2, by rw [List.range_succ, List.foldl_append, ← m4, List.foldl_cons, List.foldl_nil]; exact sumV_agr l b out (tkn e out) e us _ _ w (by simp [hn]) hq2 (fun z hz => hC.ul z (List.mem_of_mem_drop (hdr2 ▸ hz))) (agr_set hn m2 ⟨u1, u2⟩ m3), rfl⟩⟩
      · obtain rfl : c = (e.getD u.toNat 0).toNat := by omega
        repeat' (first | with_reducible refine RegQ.intro (by kernel_rfl) ?_ | ((with_reducible refine condQ_dec (fun hp => ?_) (fun hp => ?_)) <;> try simp only [hp]) | with_reducible refine condQ_beq (fun hp => ?_) (fun hp => ?_) | ((with_reducible refine wantQ_dec (fun hp => ?_) (fun hp => ?_)) <;> try simp only [hp]) | with_reducible refine wantQ_beq (fun hp => ?_) (fun hp => ?_) | ((with_reducible refine condQ_split (fun hp => ?_) (fun hp => ?_)) <;> try simp only [hp]) | ((with_reducible refine wantQ_split (fun hp => ?_) (fun hp => ?_)) <;> try simp only [hp]) | simp -implicitDefEqProofs (disch := omega) only [go_sem, Nat.reduceAdd, Nat.reduceSub, reduceCtorEq, Nat.reduceLT, Nat.reduceLeDiff, Nat.reduceEqDiff, Nat.reduceMul, Int.reduceToNat, ↓reduceIte, List.take_of_length_le, evApp_n1, evApp_i0, evApp_i1, evApp_i2, evApp_i3, evApp_i4, evApp_i5, evApp_s0, evApp_s1, evApp_s2, evApp_s3, if_pos, if_neg, decide_eq_true, decide_eq_false, beq_t, beq_f, wrap_succ, wrap_in, getD_ints, getD_intss, getD_tsrs, fillA_len, fillA_at, fillA_full, evApp_z0, evApp_z1, evApp_z2, evApp_z3, Try.ntmps75, Try.results75])
        exact ⟨q, m2, m3, by rw [m4, sumV]⟩
end Go.Proofs.Ytfjhhbpipococaa
