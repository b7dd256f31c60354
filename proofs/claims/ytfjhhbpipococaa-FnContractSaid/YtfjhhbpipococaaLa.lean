/- Contracts of functions that the laws of this seat call. -/
import Derived.Test.YtfjhhbpipococaaFz
import Derived.Test.YtfjhhbpipococaaEvC
set_option linter.all false
namespace Go.Proofs.Ytfjhhbpipococaa
open Go Go.Ev Go.RowKit Go.Ev.Enc Go.Pl

/-! ### lists of tensors, some of which lie in the caller's memory -/
def tsrsOf (T : List (Nat × Tsr)) : List AV := T.map fun p => .agg [.ds p.1 (p.2.sh.map fun n => .int .i64 n), .ds p.1 (p.2.vl.map fun n => .int .i64 n)]
theorem tsrsOf_len (T : List (Nat × Tsr)) : (tsrsOf T).length = T.length := by simp [tsrsOf]
theorem ee_tsrsT (t t' : Nat) (L : List Blk) (T : List (Nat × Tsr)) : expE (expC t L) (.ds t' (tsrsOf T)) = .ds (min t' t) (T.map fun p => .agg [.ds (min p.1 t) (p.2.sh.map fun n => .int .i64 n), .ds (min p.1 t) (p.2.vl.map fun n => .int .i64 n)]) := by
  simp [tsrsOf, expE, expC, stepC, Function.comp_def]
theorem expS_tsrsT (t : Nat) (L : List Blk) (e ver off len : Nat) (T : List (Nat × Tsr)) : expS t L ver off len (some ⟨e, tsrsOf T⟩) = if (tsrsOf T).length = ver ∧ off + len ≤ ver then .ds t (((T.drop off).take len).map fun p => .agg [.ds (min p.1 t) (p.2.sh.map fun n => .int .i64 n), .ds (min p.1 t) (p.2.vl.map fun n => .int .i64 n)]) else .any := by
  simp [tsrsOf, expS, expE, stepC, Function.comp_def]
theorem dec_tsrsT (T : List (Nat × Tsr)) : (dec (.ds 0 (T.map fun p => .agg [.ds 0 (p.2.sh.map fun n => .int .i64 n), .ds 0 (p.2.vl.map fun n => .int .i64 n)])) : Option (List Tsr)) = some (T.map (·.2)) := (ok _ _).2 (by
  show _ = AV.ds 0 ((T.map (·.2)).map fun x => .agg [.ds 0 (x.sh.map fun n => .int .i64 n), .ds 0 (x.vl.map fun n => .int .i64 n)])
  rw [List.map_map]; rfl)
theorem evApp_o2 {B0 B1 : Blk} {L : List Blk} {T : List (Nat × Tsr)} {u c : Nat} {x : Tsr} (hc : T.length = c) (h : c ≤ 1048576) :
    evApp (B0 :: B1 :: ⟨2, tsrsOf T⟩ :: L) (.sl 2 c 0 c c) [.agg [.ds u (x.sh.map fun n => .int .i64 n), .ds u (x.vl.map fun n => .int .i64 n)]] 2 48 = some (.sl 2 (c + 1) 0 (c + 1) (c + 1), B0 :: B1 :: ⟨2, tsrsOf (T ++ [(u, x)])⟩ :: L) := by
  rw [evApp_gen (q := tsrsOf T) rfl (by rw [tsrsOf_len]; exact hc) (by simp; omega) (by simp; omega)]
  simp [tsrsOf]
theorem evApp_o3 {B0 B1 B2 : Blk} {L : List Blk} {T : List (Nat × List Int)} {u c : Nat} {x : List Int} (hc : T.length = c) (h : c ≤ 1048576) :
    evApp (B0 :: B1 :: B2 :: ⟨1, rowsOf T⟩ :: L) (.sl 3 c 0 c c) [.ds u (x.map fun n => .int .i64 n)] 1 24 = some (.sl 3 (c + 1) 0 (c + 1) (c + 1), B0 :: B1 :: B2 :: ⟨1, rowsOf (T ++ [(u, x)])⟩ :: L) := by
  rw [evApp_gen (q := rowsOf T) rfl (by rw [rowsOf_len]; exact hc) (by simp; omega) (by simp; omega)]
  simp [rowsOf]
attribute [go_sem] ee_tsrsT expS_tsrsT dec_tsrsT tsrsOf_len

/-- all tensors but two -/
def restT (l : List Tsr) (i j : Int) : Nat → List Tsr
  | 0 => []
  | m + 1 => restT l i j m ++ if (m : Int) ≠ i ∧ (m : Int) ≠ j then [l.getD m ⟨[], []⟩] else []
theorem rest_len (l : List Tsr) (b : List (List Int)) (i j : Int) : ∀ k, (restT l i j k).length = (restF b i j k).length
  | 0 => rfl
  | k + 1 => by
    have := rest_len l b i j k
    unfold restT restF
    split <;> simp [this]
theorem restF_cnt {b : List (List Int)} {i j : Int} (hij : i ≠ j) (hi : 0 ≤ i) (hj : 0 ≤ j) : ∀ k : Nat, (restF b i j k).length + (if i < k then 1 else 0) + (if j < k then 1 else 0) = k
  | 0 => by
    have h1 : ¬ i < ((0 : Nat) : Int) := by omega
    have h2 : ¬ j < ((0 : Nat) : Int) := by omega
    rw [if_neg h1, if_neg h2]; rfl
  | k + 1 => by
    have := restF_cnt (b := b) hij hi hj k
    unfold restF
    rw [List.length_append]
    by_cases h1 : (k : Int) = i
    · rw [if_neg (fun h => h.1 h1), List.length_nil]
      rw [if_neg (show ¬ i < (k : Int) by omega)] at this
      rw [if_pos (show i < ((k + 1 : Nat) : Int) by omega)]
      by_cases h2 : j < (k : Int)
      · rw [if_pos h2] at this; rw [if_pos (by omega)]; omega
      · rw [if_neg h2] at this; rw [if_neg (by omega)]; omega
    · by_cases h2 : (k : Int) = j
      · rw [if_neg (fun h => h.2 h2), List.length_nil]
        rw [if_neg (show ¬ j < (k : Int) by omega)] at this
        rw [if_pos (show j < ((k + 1 : Nat) : Int) by omega)]
        by_cases h3 : i < (k : Int)
        · rw [if_pos h3] at this; rw [if_pos (by omega)]; omega
        · rw [if_neg h3] at this; rw [if_neg (by omega)]; omega
      · rw [if_pos ⟨h1, h2⟩, List.length_cons, List.length_nil]
        have e1 : (if i < ((k + 1 : Nat) : Int) then 1 else 0) = (if i < (k : Int) then 1 else 0) := by
          by_cases h : i < (k : Int)
          · rw [if_pos h, if_pos (by omega)]
          · rw [if_neg h, if_neg (by omega)]
        have e2 : (if j < ((k + 1 : Nat) : Int) then 1 else 0) = (if j < (k : Int) then 1 else 0) := by
          by_cases h : j < (k : Int)
          · rw [if_pos h, if_pos (by omega)]
          · rw [if_neg h, if_neg (by omega)]
        rw [e1, e2]; omega
theorem restF_mono (b : List (List Int)) (i j : Int) (k : Nat) : (restF b i j k).length ≤ (restF b i j (k + 1)).length := by
  rw [restF, List.length_append]; omega
theorem restF_le {b : List (List Int)} {i j : Int} {n : Nat} : ∀ d, (restF b i j n).length ≤ (restF b i j (n + d)).length
  | 0 => Nat.le_refl _
  | d + 1 => Nat.le_trans (restF_le d) (restF_mono b i j (n + d))
/-- of three at most one is left -/
theorem restF_one {b : List (List Int)} {i j : Int} {n k : Nat} (hn : n ≤ 3) (h : pairOK n i j) (hk : k ≤ n) : (restF b i j k).length ≤ 1 := by
  obtain ⟨h1, h2, h3, h4, h5⟩ := h
  have e1 := restF_cnt (b := b) h5 h1 h3 n
  rw [if_pos h2, if_pos h4] at e1
  have e2 := restF_le (b := b) (i := i) (j := j) (n := k) (n - k)
  rw [show k + (n - k) = n by omega] at e2
  omega
theorem keep_kept {b : List (List Int)} {out : List Int} {i j : Int} (hl : labsIn b) (hp : pairIn b.length i j) : keepF b out i j = keptF b out i j := by
  obtain ⟨i1, i2, j1, j2⟩ := hp
  have hli := hl i.toNat (by omega)
  have hlj := hl j.toNat (by omega)
  have h1 : keepF b out i j = labs.filter fun k => keepP b out i j k := by
    unfold keepF
    induction labs with
    | nil => rfl
    | cons a r ih =>
      rw [List.flatMap_cons, ih, List.filter_cons]
      split <;> rfl
  refine asc_ext ?_ ?_ fun x => ?_
  · rw [h1]; exact labs_asc.sublist List.filter_sublist
  · unfold keptF; exact (srt_asc _).sublist List.filter_sublist
  · constructor
    · intro hx
      have hm : x ∈ labs := by rw [h1, List.mem_filter] at hx; exact hx.1
      have := keep_eq (b := b) (out := out) (i := i) (j := j) hm
      rw [Bool.eq_iff_iff, List.contains_iff_mem, List.contains_iff_mem] at this
      exact this.1 hx
    · intro hx
      have h0 : 0 ≤ x ∧ x < 5 := by
        rcases (keptF_mem.1 hx).1 with h | h
        · exact labOK_mem hli h
        · exact labOK_mem hlj h
      have hm : x ∈ labs := by
        have : x = 0 ∨ x = 1 ∨ x = 2 ∨ x = 3 ∨ x = 4 := by omega
        rcases this with rfl | rfl | rfl | rfl | rfl <;> simp [labs]
      have := keep_eq (b := b) (out := out) (i := i) (j := j) hm
      rw [Bool.eq_iff_iff, List.contains_iff_mem, List.contains_iff_mem] at this
      exact this.2 hx
def conF (l : List Tsr) (b : List (List Int)) (out : List Int) : Option Tsr := (extF l b).bind (contrF l b out)
def con2 (l : List Tsr) (b : List (List Int)) (out : List Int) (i j : Int) : Option Tsr := conF [l.getD i.toNat ⟨[], []⟩, l.getD j.toNat ⟨[], []⟩] [b.getD i.toNat [], b.getD j.toNat []] (keptF b out i j)
def conR (l : List Tsr) (b : List (List Int)) (out : List Int) (i j : Int) (f : Tsr) : Option Tsr := conF (f :: restT l i j l.length) (keptF b out i j :: restF b i j b.length) out
/-- by two first -/
def conBy (l : List Tsr) (b : List (List Int)) (out : List Int) (i j : Int) : Option Tsr :=
  match extF l b with
  | none => none
  | some _ => if pairOK l.length i j ∧ labOK out = true then
      match tsrT (con2 l b out i j) with
      | (f, true) => conR l b out i j f
      | (_, false) => none
    else none
theorem conBy_none {l : List Tsr} {b : List (List Int)} {out : List Int} {i j : Int} (h : extF l b = none) : conBy l b out i j = none := by unfold conBy; rw [h]
theorem conBy_bad {l : List Tsr} {b : List (List Int)} {out : List Int} {i j : Int} {e : List Int} (h : extF l b = some e) (h2 : ¬ (pairOK l.length i j ∧ labOK out = true)) : conBy l b out i j = none := by unfold conBy; rw [h]; exact if_neg h2
theorem conBy_two {l : List Tsr} {b : List (List Int)} {out : List Int} {i j : Int} {e : List Int} {f : Tsr} (h : extF l b = some e) (h2 : pairOK l.length i j ∧ labOK out = true) (hf : tsrT (con2 l b out i j) = (f, false)) : conBy l b out i j = none := by unfold conBy; rw [h]; simp only; rw [if_pos h2, hf]
theorem conBy_all {l : List Tsr} {b : List (List Int)} {out : List Int} {i j : Int} {e : List Int} {f : Tsr} (h : extF l b = some e) (h2 : pairOK l.length i j ∧ labOK out = true) (hf : tsrT (con2 l b out i j) = (f, true)) : conBy l b out i j = conR l b out i j f := by unfold conBy; rw [h]; simp only; rw [if_pos h2, hf]
def gConBy (l : List Tsr) (b : List (List Int)) (out : List Int) (i j : Int) : Option (Tsr × Bool) := gd (szOK l b ∧ out.length ≤ 1048576) (tsrT (conBy l b out i j))
theorem gConBy_eq {l : List Tsr} {b : List (List Int)} {out : List Int} {i j : Int} (h : szOK l b ∧ out.length ≤ 1048576) : gConBy l b out i j = some (tsrT (conBy l b out i j)) := gd_eq h
theorem tsrT_true {x : Option Tsr} {t : Tsr} (h : tsrT x = (t, true)) : x = some t ∧ tsrOK t = true := by
  cases x with
  | none => simp [tsrT] at h
  | some u =>
    cases hk : tsrOK u with
    | false => simp [tsrT, hk] at h
    | true =>
      simp only [tsrT, hk, if_true, Prod.mk.injEq] at h
      obtain ⟨rfl, _⟩ := h
      exact ⟨rfl, hk⟩
theorem tsrT_false {x : Option Tsr} {t : Tsr} (h : tsrT x = (t, false)) : t = ⟨[], []⟩ := by
  cases x with
  | none => simp only [tsrT, Prod.mk.injEq] at h; exact h.1.symm
  | some u =>
    cases hk : tsrOK u with
    | false => simp [tsrT, hk] at h; exact h.symm
    | true => simp [tsrT, hk] at h
theorem sz_two {l : List Tsr} {b : List (List Int)} {i j : Int} (h : szOK l b) (hb : b.length = l.length) (hp : pairOK l.length i j) : szOK [l.getD i.toNat ⟨[], []⟩, l.getD j.toNat ⟨[], []⟩] [b.getD i.toNat [], b.getD j.toNat []] := by
  obtain ⟨p1, p2, p3, p4, p5⟩ := hp
  obtain ⟨h1, h2, h3, h4⟩ := h
  exact ⟨(by decide : 2 < 4294967296), (by decide : 2 < 4294967296), fun k hk => by match k, hk with | 0, _ => exact h3 _ (by omega) | 1, _ => exact h3 _ (by omega), fun k hk => by match k, hk with | 0, _ => exact h4 _ (by omega) | 1, _ => exact h4 _ (by omega)⟩
theorem restT_at {l : List Tsr} {i j : Int} {x : Tsr} : ∀ k, k ≤ l.length → x ∈ restT l i j k → ∃ m, m < k ∧ x = l.getD m ⟨[], []⟩ ∧ (m : Int) ≠ i ∧ (m : Int) ≠ j
  | 0, _, h => by simp [restT] at h
  | k + 1, hk, h => by
    unfold restT at h
    rcases List.mem_append.1 h with h | h
    · obtain ⟨m, h1, h2, h3⟩ := restT_at k (by omega) h
      exact ⟨m, by omega, h2, h3⟩
    · split at h
      · rename_i hc
        exact ⟨k, by omega, by simpa using h, hc⟩
      · simp at h
theorem getD_mem' {α : Type} {l : List α} {k : Nat} (d : α) (h : k < l.length) : l.getD k d ∈ l := by
  rw [List.getD_eq_getElem?_getD, List.getElem?_eq_getElem h]; exact List.getElem_mem _
theorem sz_rest {l : List Tsr} {b : List (List Int)} {out : List Int} {i j : Int} {f : Tsr} (h : szOK l b) (hb : b.length = l.length) (hl : l.length ≤ 3) (hf : f.sh.length ≤ 4 ∧ f.vl.length ≤ 60) (hk : (keptF b out i j).length ≤ 5) : szOK (f :: restT l i j l.length) (keptF b out i j :: restF b i j b.length) := by
  obtain ⟨h1, h2, h3, h4⟩ := h
  have e1 := rest_len l b i j l.length
  have e2 := restF_len b i j b.length
  rw [hb] at e2
  refine ⟨by rw [List.length_cons]; omega, by rw [List.length_cons, hb]; omega, fun k hk => ?_, fun k hk2 => ?_⟩
  · rcases List.mem_cons.1 (getD_mem' ⟨[], []⟩ hk) with h | h
    · rw [h]; omega
    · obtain ⟨m, m1, m2, _⟩ := restT_at _ (Nat.le_refl _) h
      rw [m2]; exact h3 m m1
  · rcases List.mem_cons.1 (getD_mem' [] hk2) with h | h
    · rw [h]; omega
    · obtain ⟨m, m1, m2, _⟩ := restF_mem _ (Nat.le_refl _) h
      rw [m2]; exact h4 m m1
set_option maxHeartbeats 2000000 in
set_option maxRecDepth 100000 in
theorem isp_others {Sg : FuncId → Option (List AV → Option AV)} (hS : Sound Try.prog Sg) (l : List Tsr) (b : List (List Int)) (i j : Int) (hb : b.length = l.length) (hl : l.length ≤ 3) (B0 B1 : Blk) (c0 : Nat) (hc0 : (restT l i j l.length).length = c0) : ISpec Try.prog 46 [.ds 0 (l.map fun x => .agg [ints 0 x.sh, ints 0 x.vl]), .ds 0 (b.map fun r => .ds 0 (r.map fun n => .int .i64 n)), i64 i, i64 j] [B0, B1] (fun r L' => r = .tup [.sl 2 c0 0 c0 c0, .sl 3 c0 0 c0 c0] ∧ L' = [B0, B1, ⟨2, tsrsOf ((restT l i j l.length).map fun x => (0, x))⟩, ⟨1, rowsOf ((restF b i j b.length).map fun x => (0, x))⟩]) := by
  refine ISpec.intro Try.func46 rfl (vc_sound Try.pf hS _ _ _ ?_)
  repeat' (first | with_reducible refine RegQ.intro (by kernel_rfl) ?_ | with_reducible refine DrawQ.nat (by kernel_rfl) ?_ | ((with_reducible refine condQ_dec (fun hp => ?_) (fun hp => ?_)) <;> try simp only [hp]) | with_reducible refine condQ_beq (fun hp => ?_) (fun hp => ?_) | ((with_reducible refine wantQ_dec (fun hp => ?_) (fun hp => ?_)) <;> try simp only [hp]) | with_reducible refine wantQ_beq (fun hp => ?_) (fun hp => ?_) | ((with_reducible refine condQ_split (fun hp => ?_) (fun hp => ?_)) <;> try simp only [hp]) | ((with_reducible refine wantQ_split (fun hp => ?_) (fun hp => ?_)) <;> try simp only [hp]) | simp -implicitDefEqProofs (disch := omega) only [go_sem, Nat.reduceAdd, Nat.reduceSub, reduceCtorEq, Nat.reduceLT, Nat.reduceLeDiff, Nat.reduceEqDiff, Nat.reduceMul, Int.reduceToNat, ↓reduceIte, List.take_of_length_le, evApp_n1, evApp_i0, evApp_i1, evApp_i2, evApp_i3, evApp_i4, evApp_i5, evApp_s0, evApp_s1, evApp_s2, evApp_s3, if_pos, if_neg, decide_eq_true, decide_eq_false, beq_t, beq_f, wrap_succ, wrap_in, getD_ints, getD_intss, getD_tsrs, fillA_len, fillA_at, fillA_full, evApp_z0, evApp_z1, evApp_z2, evApp_z3, evApp_i6, List.getElem?_set_self, List.set_set, Try.ntmps46, Try.results46])
  refine LoopQ.mix (fun t0 L0 nn ss => ∃ (m : Nat) (c : Nat) (T : List (Nat × Tsr)) (S : List (Nat × List Int)) (_ : Unit), (∃ x : Nat → AV, ss = ⟨mixL 0 (.k :: .k :: .k :: .k :: .k :: .k :: .k :: .k :: .k :: .k :: .v (.sl 2 c 0 c c) :: .v (.sl 3 c 0 c c) :: .v (i64 (m : Nat)) :: .k :: .k :: .s :: .s :: .s :: .s :: .s :: .s :: .s :: .s :: .s :: .s :: .s :: .s :: .s :: .s :: .s :: .s :: .s :: .s :: .s :: .s :: .s :: .s :: .s :: .s :: .s :: .s :: .s :: .s :: .k :: .k :: []) t0 x, [B0, B1, ⟨2, tsrsOf T⟩, ⟨1, rowsOf S⟩]⟩) ∧ (m ≤ l.length) ∧ (T.length = c ∧ S.length = c ∧ c ≤ m) ∧ (T = (restT l i j m).map (fun x => (0, x)) ∧ S = (restF b i j m).map (fun x => (0, x))) ∧ nn = l.length - m) ?_ ?_
  · exact ⟨_, ⟨0, 0, [], [], (), mixI rfl, Nat.zero_le _, ⟨rfl, rfl, Nat.le_refl _⟩, ⟨rfl, rfl⟩, rfl⟩⟩
  · rintro I0 hI0 n s ⟨m, c, T, S, _, ⟨x, rfl⟩, g1, ⟨g2, g2', g2''⟩, ⟨g3, g3'⟩, rfl⟩
    by_cases hm : m < l.length
    · have hmb : m < b.length := by omega
      repeat' (first | with_reducible refine RegQ.intro (by kernel_rfl) ?_ | with_reducible refine DrawQ.nat (by kernel_rfl) ?_ | ((with_reducible refine condQ_dec (fun hp => ?_) (fun hp => ?_)) <;> try simp only [hp]) | with_reducible refine condQ_beq (fun hp => ?_) (fun hp => ?_) | ((with_reducible refine wantQ_dec (fun hp => ?_) (fun hp => ?_)) <;> try simp only [hp]) | with_reducible refine wantQ_beq (fun hp => ?_) (fun hp => ?_) | ((with_reducible refine condQ_split (fun hp => ?_) (fun hp => ?_)) <;> try simp only [hp]) | ((with_reducible refine wantQ_split (fun hp => ?_) (fun hp => ?_)) <;> try simp only [hp]) | simp -implicitDefEqProofs (disch := omega) only [go_sem, Nat.reduceAdd, Nat.reduceSub, reduceCtorEq, Nat.reduceLT, Nat.reduceLeDiff, Nat.reduceEqDiff, Nat.reduceMul, Int.reduceToNat, ↓reduceIte, List.take_of_length_le, evApp_n1, evApp_i0, evApp_i1, evApp_i2, evApp_i3, evApp_i4, evApp_i5, evApp_s0, evApp_s1, evApp_s2, evApp_s3, if_pos, if_neg, decide_eq_true, decide_eq_false, beq_t, beq_f, wrap_succ, wrap_in, getD_ints, getD_intss, getD_tsrs, fillA_len, fillA_at, fillA_full, evApp_z0, evApp_z1, evApp_z2, evApp_z3, evApp_i6, List.getElem?_set_self, List.set_set, Try.ntmps46, Try.results46, evApp_o2, evApp_o3])
      · exact ⟨l.length - (m + 1), by omega, hI0 _ _ ⟨m + 1, c, T, S, (), mixI rfl, hm, ⟨g2, g2', by omega⟩, by rw [restT, restF, if_neg (fun h => h.1 hp), if_neg (fun h => h.1 hp), List.append_nil, List.append_nil]; exact ⟨g3, g3'⟩, rfl⟩⟩
      · exact ⟨l.length - (m + 1), by omega, hI0 _ _ ⟨m + 1, c, T, S, (), mixI rfl, hm, ⟨g2, g2', by omega⟩, by rw [restT, restF, if_neg (fun h => h.2 hp), if_neg (fun h => h.2 hp), List.append_nil, List.append_nil]; exact ⟨g3, g3'⟩, rfl⟩⟩
      · rename_i hi
        exact ⟨l.length - (m + 1), by omega, hI0 _ _ ⟨m + 1, c + 1, T ++ [(0, l.getD m ⟨[], []⟩)], S ++ [(0, b.getD m [])], (), mixI rfl, hm, ⟨by simp [g2], by simp [g2'], by omega⟩, by rw [restT, restF, if_pos ⟨hi, hp⟩, if_pos ⟨hi, hp⟩, List.map_append, List.map_append, g3, g3']; exact ⟨rfl, rfl⟩, rfl⟩⟩
    · obtain rfl : m = l.length := by omega
      obtain rfl : c = c0 := by rw [← hc0, ← g2, g3, List.length_map]
      repeat' (first | with_reducible refine RegQ.intro (by kernel_rfl) ?_ | with_reducible refine DrawQ.nat (by kernel_rfl) ?_ | ((with_reducible refine condQ_dec (fun hp => ?_) (fun hp => ?_)) <;> try simp only [hp]) | with_reducible refine condQ_beq (fun hp => ?_) (fun hp => ?_) | ((with_reducible refine wantQ_dec (fun hp => ?_) (fun hp => ?_)) <;> try simp only [hp]) | with_reducible refine wantQ_beq (fun hp => ?_) (fun hp => ?_) | ((with_reducible refine condQ_split (fun hp => ?_) (fun hp => ?_)) <;> try simp only [hp]) | ((with_reducible refine wantQ_split (fun hp => ?_) (fun hp => ?_)) <;> try simp only [hp]) | simp -implicitDefEqProofs (disch := omega) only [go_sem, Nat.reduceAdd, Nat.reduceSub, reduceCtorEq, Nat.reduceLT, Nat.reduceLeDiff, Nat.reduceEqDiff, Nat.reduceMul, Int.reduceToNat, ↓reduceIte, List.take_of_length_le, evApp_n1, evApp_i0, evApp_i1, evApp_i2, evApp_i3, evApp_i4, evApp_i5, evApp_s0, evApp_s1, evApp_s2, evApp_s3, if_pos, if_neg, decide_eq_true, decide_eq_false, beq_t, beq_f, wrap_succ, wrap_in, getD_ints, getD_intss, getD_tsrs, fillA_len, fillA_at, fillA_full, evApp_z0, evApp_z1, evApp_z2, evApp_z3, evApp_i6, List.getElem?_set_self, List.set_set, Try.ntmps46, Try.results46])
      rw [g3, g3', hb]
theorem can_others : CanCall Try.prog 46 := ⟨_, Try.func46, rfl, rfl⟩
theorem evApp_d0 {L : List Blk} {t : Nat} {l : List AV} {sz by' : Nat} : evApp L (.ds t l) [] sz by' = some (.ds t l, L) := rfl
theorem evApp_dT {L : List Blk} {u : Nat} {x : Tsr} {y : AV} : evApp L (.ds 2 [.agg [.ds u (x.sh.map fun n => .int .i64 n), .ds u (x.vl.map fun n => .int .i64 n)]]) [y] 2 48 = some (.sl L.length 2 0 2 2, L ++ [⟨2, [.agg [.ds u (x.sh.map fun n => .int .i64 n), .ds u (x.vl.map fun n => .int .i64 n)], y]⟩]) := by
  unfold evApp
  simp [AV.cells]
theorem evApp_dI {L : List Blk} {u : Nat} {x : List Int} {y : AV} : evApp L (.ds 2 [.ds u (x.map fun n => .int .i64 n)]) [y] 1 24 = some (.sl L.length 2 0 2 2, L ++ [⟨1, [.ds u (x.map fun n => .int .i64 n), y]⟩]) := by
  unfold evApp
  simp [AV.cells]
theorem ee_t1u (L : List Blk) (t u : Nat) (x : Tsr) : expE (expC 0 L) (.ds t [.agg [.ds u (x.sh.map fun n => .int .i64 n), .ds u (x.vl.map fun n => .int .i64 n)]]) = .ds 0 [.agg [.ds 0 (x.sh.map fun n => .int .i64 n), .ds 0 (x.vl.map fun n => .int .i64 n)]] := by
  simp [expE, expC, stepC, Function.comp_def]
theorem ee_t2u (L : List Blk) (t u v : Nat) (x y : Tsr) : expE (expC 0 L) (.ds t [.agg [.ds u (x.sh.map fun n => .int .i64 n), .ds u (x.vl.map fun n => .int .i64 n)], .agg [.ds v (y.sh.map fun n => .int .i64 n), .ds v (y.vl.map fun n => .int .i64 n)]]) = .ds 0 [.agg [.ds 0 (x.sh.map fun n => .int .i64 n), .ds 0 (x.vl.map fun n => .int .i64 n)], .agg [.ds 0 (y.sh.map fun n => .int .i64 n), .ds 0 (y.vl.map fun n => .int .i64 n)]] := by
  simp [expE, expC, stepC, Function.comp_def]
theorem expS_t2u (L : List Blk) (e u v : Nat) (x y : Tsr) : expS 0 L 2 0 2 (some ⟨e, [.agg [.ds u (x.sh.map fun n => .int .i64 n), .ds u (x.vl.map fun n => .int .i64 n)], .agg [.ds v (y.sh.map fun n => .int .i64 n), .ds v (y.vl.map fun n => .int .i64 n)]]⟩) = .ds 0 [.agg [.ds 0 (x.sh.map fun n => .int .i64 n), .ds 0 (x.vl.map fun n => .int .i64 n)], .agg [.ds 0 (y.sh.map fun n => .int .i64 n), .ds 0 (y.vl.map fun n => .int .i64 n)]] := by
  simp [expS, expE, stepC, Function.comp_def]
theorem expS_r2u (L : List Blk) (e u v : Nat) (x y : List Int) : expS 0 L 2 0 2 (some ⟨e, [.ds u (x.map fun n => .int .i64 n), .ds v (y.map fun n => .int .i64 n)]⟩) = .ds 0 [.ds 0 (x.map fun n => .int .i64 n), .ds 0 (y.map fun n => .int .i64 n)] := by
  simp [expS, expE, stepC, Function.comp_def]
theorem pair_facts {n : Nat} {i j : Int} (h : pairOK n i j) : inR i 0 ((n : Int) - 1) = true ∧ inR j 0 ((n : Int) - 1) = true ∧ (i == j) = false := by
  obtain ⟨p1, p2, p3, p4, p5⟩ := h
  exact ⟨by unfold inR; rw [decide_eq_true p1, decide_eq_true (by omega)]; rfl, by unfold inR; rw [decide_eq_true p3, decide_eq_true (by omega)]; rfl, beq_f p5⟩
/-- what is left: nothing, or one -/
theorem rest_cases {l : List Tsr} {b : List (List Int)} {i j : Int} (hb : b.length = l.length) (hl : l.length ≤ 3) (hp : pairOK l.length i j) :
    (restT l i j l.length = [] ∧ restF b i j b.length = []) ∨ ∃ z q, restT l i j l.length = [z] ∧ restF b i j b.length = [q] ∧ z ∈ restT l i j l.length := by
  have e1 := restF_one (b := b) hl hp (Nat.le_refl _)
  have e2 := rest_len l b i j l.length
  rw [hb]
  match h1 : restT l i j l.length, h2 : restF b i j l.length with
  | [], [] => exact .inl ⟨rfl, rfl⟩
  | [z], [q] => exact .inr ⟨z, q, rfl, rfl, by simp⟩
  | [], q :: r => rw [h1, h2] at e2; simp at e2
  | z :: r, [] => rw [h1, h2] at e2; simp at e2
  | z :: z' :: r, q => rw [h1] at e2; simp at e2; omega
  | [z], q :: q' :: r => rw [h2] at e1; simp at e1
set_option maxHeartbeats 4000000 in
set_option maxRecDepth 100000 in
theorem spec_ContractByS {Sg : FuncId → Option (List AV → Option AV)} (hS : Sound Try.prog Sg) (he : Sg 42 = some (F2 gExtentsOf)) (hr : Sg 43 = some (F3 gInRange)) (ha : Sg 44 = some (F3 gAllIn)) (hk : Sg 45 = some (F4 gKeepFor)) (hc : Sg 32 = some (F3 gContr)) (ho : Sg 46 = none) : ∀ a r, F5 gConBy a = some r → CSpec Try.prog 10 a r := by
  refine F5_spec ?_
  intro l b out i j r hr0
  obtain ⟨⟨h1, h2⟩, rfl⟩ := gd_some hr0
  refine CSpec.intro Try.func10 rfl (own _) (vc3_sound Try.pf hS hS _ _ _ ?_)
  cases hE : extF l b with
  | none =>
    rw [conBy_none hE]
    repeat' (first | with_reducible refine RegQ.intro (by kernel_rfl) ?_ | with_reducible refine DrawQ.nat (by kernel_rfl) ?_ | ((with_reducible refine condQ_dec (fun hp => ?_) (fun hp => ?_)) <;> try simp only [hp]) | with_reducible refine condQ_beq (fun hp => ?_) (fun hp => ?_) | ((with_reducible refine wantQ_dec (fun hp => ?_) (fun hp => ?_)) <;> try simp only [hp]) | with_reducible refine wantQ_beq (fun hp => ?_) (fun hp => ?_) | ((with_reducible refine condQ_split (fun hp => ?_) (fun hp => ?_)) <;> try simp only [hp]) | ((with_reducible refine wantQ_split (fun hp => ?_) (fun hp => ?_)) <;> try simp only [hp]) | simp -implicitDefEqProofs (disch := omega) only [go_sem, Nat.reduceAdd, Nat.reduceSub, reduceCtorEq, Nat.reduceLT, Nat.reduceLeDiff, Nat.reduceEqDiff, Nat.reduceMul, Int.reduceToNat, ↓reduceIte, List.take_of_length_le, evApp_n1, evApp_i0, evApp_i1, evApp_i2, evApp_i3, evApp_i4, evApp_i5, evApp_s0, evApp_s1, evApp_s2, evApp_s3, if_pos, if_neg, decide_eq_true, decide_eq_false, beq_t, beq_f, wrap_succ, wrap_in, getD_ints, getD_intss, getD_tsrs, fillA_len, fillA_at, fillA_full, evApp_z0, evApp_z1, evApp_z2, evApp_z3, evApp_i6, List.getElem?_set_self, List.set_set, evApp_d0, evApp_dT, evApp_dI, Try.ntmps10, Try.results10, he, gExtentsOf_eq h1, hE, extRes])
    rfl
  | some e =>
    by_cases hpp : pairOK l.length i j ∧ labOK out = true
    · obtain ⟨q1, q2, q3⟩ := pair_facts hpp.1
      have hx := extOK_of hE
      have hbl := hx.bl
      have hl3 := hx.l3
      have hpi : pairIn b.length i j := by obtain ⟨p1, p2, p3, p4, p5⟩ := hpp.1; exact ⟨p1, by omega, p3, by omega⟩
      have hb : keepB b out i j := ⟨⟨⟨by omega, by omega⟩, fun k hk => h1.2.2.2 k hk⟩, hpi⟩
      have hk4 := (extF_facts hE).2.2
      have hb2 : keptB b out i j := ⟨⟨⟨by omega, by omega⟩, fun k hk => by have := hk4 k hk; omega⟩, hpi⟩
      have hK := keep_kept (out := out) hx.lab hpi
      have hK5 := keptF_len hb2 hx.lab
      have q4 : gKeepFor b out i j = some (keptF b out i j) := by rw [gKeepFor_eq hb, hK]
      have q5 : gContr [l.getD i.toNat ⟨[], []⟩, l.getD j.toNat ⟨[], []⟩] [b.getD i.toNat [], b.getD j.toNat []] (keptF b out i j) = some (tsrT (con2 l b out i j)) := gContr_eq ⟨sz_two h1 hbl hpp.1, by omega⟩
      obtain ⟨p1, p2, p3, p4, p5⟩ := id hpp.1
      obtain ⟨f, o, hf⟩ : ∃ f o, tsrT (con2 l b out i j) = (f, o) := ⟨_, _, rfl⟩
      rw [hf] at q5
      cases o with
      | false =>
        rw [conBy_two hE hpp hf]
        have := tsrT_false hf
        subst this
        repeat' (first | with_reducible refine RegQ.intro (by kernel_rfl) ?_ | with_reducible refine DrawQ.nat (by kernel_rfl) ?_ | ((with_reducible refine condQ_dec (fun hp => ?_) (fun hp => ?_)) <;> try simp only [hp]) | with_reducible refine condQ_beq (fun hp => ?_) (fun hp => ?_) | ((with_reducible refine wantQ_dec (fun hp => ?_) (fun hp => ?_)) <;> try simp only [hp]) | with_reducible refine wantQ_beq (fun hp => ?_) (fun hp => ?_) | ((with_reducible refine condQ_split (fun hp => ?_) (fun hp => ?_)) <;> try simp only [hp]) | ((with_reducible refine wantQ_split (fun hp => ?_) (fun hp => ?_)) <;> try simp only [hp]) | simp -implicitDefEqProofs (disch := omega) only [go_sem, Nat.reduceAdd, Nat.reduceSub, reduceCtorEq, Nat.reduceLT, Nat.reduceLeDiff, Nat.reduceEqDiff, Nat.reduceMul, Int.reduceToNat, ↓reduceIte, List.take_of_length_le, evApp_n1, evApp_i0, evApp_i1, evApp_i2, evApp_i3, evApp_i4, evApp_i5, evApp_s0, evApp_s1, evApp_s2, evApp_s3, if_pos, if_neg, decide_eq_true, decide_eq_false, beq_t, beq_f, wrap_succ, wrap_in, getD_ints, getD_intss, getD_tsrs, fillA_len, fillA_at, fillA_full, evApp_z0, evApp_z1, evApp_z2, evApp_z3, evApp_i6, List.getElem?_set_self, List.set_set, evApp_d0, evApp_dT, evApp_dI, Try.ntmps10, Try.results10, he, gExtentsOf_eq h1, hE, extRes, hr, gInRange_eq, q1, q2, q3, ha, gAllIn_eq, labOK_in, hpp.2, hk, q4, hc, q5, ee_t2, dec_t2])
        rfl
      | true =>
        rw [conBy_all hE hpp hf]
        have hf2 := (tsrT_true hf).2
        have hf3 := tsrOK_dims hf2
        have hf4 := tsr_vl60 hf2
        have hsz := sz_rest (out := out) (f := f) (i := i) (j := j) h1 hbl hl3 ⟨hf3.1, hf4⟩ hK5
        have q6 : gContr (f :: restT l i j l.length) (keptF b out i j :: restF b i j b.length) out = some (tsrT (conR l b out i j f)) := gContr_eq ⟨hsz, by omega⟩
        generalize tsrT (conR l b out i j f) = R at q6 ⊢
        generalize keptF b out i j = K at *
        repeat' (first | with_reducible refine RegQ.intro (by kernel_rfl) ?_ | with_reducible refine DrawQ.nat (by kernel_rfl) ?_ | ((with_reducible refine condQ_dec (fun hp => ?_) (fun hp => ?_)) <;> try simp only [hp]) | with_reducible refine condQ_beq (fun hp => ?_) (fun hp => ?_) | ((with_reducible refine wantQ_dec (fun hp => ?_) (fun hp => ?_)) <;> try simp only [hp]) | with_reducible refine wantQ_beq (fun hp => ?_) (fun hp => ?_) | ((with_reducible refine condQ_split (fun hp => ?_) (fun hp => ?_)) <;> try simp only [hp]) | ((with_reducible refine wantQ_split (fun hp => ?_) (fun hp => ?_)) <;> try simp only [hp]) | simp -implicitDefEqProofs (disch := omega) only [go_sem, Nat.reduceAdd, Nat.reduceSub, reduceCtorEq, Nat.reduceLT, Nat.reduceLeDiff, Nat.reduceEqDiff, Nat.reduceMul, Int.reduceToNat, ↓reduceIte, List.take_of_length_le, evApp_n1, evApp_i0, evApp_i1, evApp_i2, evApp_i3, evApp_i4, evApp_i5, evApp_s0, evApp_s1, evApp_s2, evApp_s3, if_pos, if_neg, decide_eq_true, decide_eq_false, beq_t, beq_f, wrap_succ, wrap_in, getD_ints, getD_intss, getD_tsrs, fillA_len, fillA_at, fillA_full, evApp_z0, evApp_z1, evApp_z2, evApp_z3, evApp_i6, List.getElem?_set_self, List.set_set, evApp_d0, evApp_dT, evApp_dI, Try.ntmps10, Try.results10, he, gExtentsOf_eq h1, hE, extRes, hr, gInRange_eq, q1, q2, q3, ha, gAllIn_eq, labOK_in, hpp.2, hk, q4, hc, q5, ee_t2, dec_t2, ho, opQ_none])
        rcases rest_cases (b := b) hbl hl3 hpp.1 with ⟨r1, r2⟩ | ⟨z, q, r1, r2, r3⟩
        · refine InlK_intro rfl rfl can_others ((isp_others hS l b i j hbl hl3 _ _ 0 (by rw [r1]; rfl)).mono ?_)
          rintro r L1 ⟨rfl, rfl⟩
          rw [r1, r2] at q6
          rw [r1, r2]
          simp only [List.map_nil, tsrsOf, rowsOf]
          repeat' (first | with_reducible refine RegQ.intro (by kernel_rfl) ?_ | with_reducible refine DrawQ.nat (by kernel_rfl) ?_ | ((with_reducible refine condQ_dec (fun hp => ?_) (fun hp => ?_)) <;> try simp only [hp]) | with_reducible refine condQ_beq (fun hp => ?_) (fun hp => ?_) | ((with_reducible refine wantQ_dec (fun hp => ?_) (fun hp => ?_)) <;> try simp only [hp]) | with_reducible refine wantQ_beq (fun hp => ?_) (fun hp => ?_) | ((with_reducible refine condQ_split (fun hp => ?_) (fun hp => ?_)) <;> try simp only [hp]) | ((with_reducible refine wantQ_split (fun hp => ?_) (fun hp => ?_)) <;> try simp only [hp]) | simp -implicitDefEqProofs (disch := omega) only [go_sem, Nat.reduceAdd, Nat.reduceSub, reduceCtorEq, Nat.reduceLT, Nat.reduceLeDiff, Nat.reduceEqDiff, Nat.reduceMul, Int.reduceToNat, ↓reduceIte, List.take_of_length_le, evApp_n1, evApp_i0, evApp_i1, evApp_i2, evApp_i3, evApp_i4, evApp_i5, evApp_s0, evApp_s1, evApp_s2, evApp_s3, if_pos, if_neg, decide_eq_true, decide_eq_false, beq_t, beq_f, wrap_succ, wrap_in, getD_ints, getD_intss, getD_tsrs, fillA_len, fillA_at, fillA_full, evApp_z0, evApp_z1, evApp_z2, evApp_z3, evApp_i6, List.getElem?_set_self, List.set_set, evApp_d0, evApp_dT, evApp_dI, Try.ntmps10, Try.results10, hc, q6, ee_t1u, dec_t1])
        · refine InlK_intro rfl rfl can_others ((isp_others hS l b i j hbl hl3 _ _ 1 (by rw [r1]; rfl)).mono ?_)
          rintro r L1 ⟨rfl, rfl⟩
          rw [r1, r2] at q6
          rw [r1, r2]
          simp only [List.map_cons, List.map_nil, tsrsOf, rowsOf]
          repeat' (first | with_reducible refine RegQ.intro (by kernel_rfl) ?_ | with_reducible refine DrawQ.nat (by kernel_rfl) ?_ | ((with_reducible refine condQ_dec (fun hp => ?_) (fun hp => ?_)) <;> try simp only [hp]) | with_reducible refine condQ_beq (fun hp => ?_) (fun hp => ?_) | ((with_reducible refine wantQ_dec (fun hp => ?_) (fun hp => ?_)) <;> try simp only [hp]) | with_reducible refine wantQ_beq (fun hp => ?_) (fun hp => ?_) | ((with_reducible refine condQ_split (fun hp => ?_) (fun hp => ?_)) <;> try simp only [hp]) | ((with_reducible refine wantQ_split (fun hp => ?_) (fun hp => ?_)) <;> try simp only [hp]) | simp -implicitDefEqProofs (disch := omega) only [go_sem, Nat.reduceAdd, Nat.reduceSub, reduceCtorEq, Nat.reduceLT, Nat.reduceLeDiff, Nat.reduceEqDiff, Nat.reduceMul, Int.reduceToNat, ↓reduceIte, List.take_of_length_le, evApp_n1, evApp_i0, evApp_i1, evApp_i2, evApp_i3, evApp_i4, evApp_i5, evApp_s0, evApp_s1, evApp_s2, evApp_s3, if_pos, if_neg, decide_eq_true, decide_eq_false, beq_t, beq_f, wrap_succ, wrap_in, getD_ints, getD_intss, getD_tsrs, fillA_len, fillA_at, fillA_full, evApp_z0, evApp_z1, evApp_z2, evApp_z3, evApp_i6, List.getElem?_set_self, List.set_set, evApp_d0, evApp_dT, evApp_dI, Try.ntmps10, Try.results10, hc, q6, expS_t2u, expS_r2u, dec_t2])
    · obtain ⟨e1, e2, e3, e4, e5⟩ := extF_len hE
      rw [conBy_bad hE hpp]
      repeat' (first | with_reducible refine RegQ.intro (by kernel_rfl) ?_ | with_reducible refine DrawQ.nat (by kernel_rfl) ?_ | ((with_reducible refine condQ_dec (fun hp => ?_) (fun hp => ?_)) <;> try simp only [hp]) | with_reducible refine condQ_beq (fun hp => ?_) (fun hp => ?_) | ((with_reducible refine wantQ_dec (fun hp => ?_) (fun hp => ?_)) <;> try simp only [hp]) | with_reducible refine wantQ_beq (fun hp => ?_) (fun hp => ?_) | ((with_reducible refine condQ_split (fun hp => ?_) (fun hp => ?_)) <;> try simp only [hp]) | ((with_reducible refine wantQ_split (fun hp => ?_) (fun hp => ?_)) <;> try simp only [hp]) | simp -implicitDefEqProofs (disch := omega) only [go_sem, Nat.reduceAdd, Nat.reduceSub, reduceCtorEq, Nat.reduceLT, Nat.reduceLeDiff, Nat.reduceEqDiff, Nat.reduceMul, Int.reduceToNat, ↓reduceIte, List.take_of_length_le, evApp_n1, evApp_i0, evApp_i1, evApp_i2, evApp_i3, evApp_i4, evApp_i5, evApp_s0, evApp_s1, evApp_s2, evApp_s3, if_pos, if_neg, decide_eq_true, decide_eq_false, beq_t, beq_f, wrap_succ, wrap_in, getD_ints, getD_intss, getD_tsrs, fillA_len, fillA_at, fillA_full, evApp_z0, evApp_z1, evApp_z2, evApp_z3, evApp_i6, List.getElem?_set_self, List.set_set, evApp_d0, evApp_dT, evApp_dI, Try.ntmps10, Try.results10, he, gExtentsOf_eq h1, hE, extRes, hr, gInRange_eq, ha, gAllIn_eq, labOK_in])
      all_goals (try rfl)
      exfalso
      have n3 : inR i 0 ((l.length : Int) - 1) = true := by assumption
      have n4 : inR j 0 ((l.length : Int) - 1) = true := by assumption
      have h6 := inR_t n3
      have h7 := inR_t n4
      exact hpp ⟨⟨h6.1, by omega, h7.1, by omega, by assumption⟩, by assumption⟩
/-- the tensors and the labels so far -/
inductive IsRest : AV → AV → List Tsr → List (List Int) → Prop
  | one (x q) : IsRest (.ds 2 [.agg [.ds 1 (x.sh.map fun n => .int .i64 n), .ds 1 (x.vl.map fun n => .int .i64 n)]]) (.ds 2 [.ds 1 (q.map fun n => .int .i64 n)]) [x] [q]
  | two (x q x' q') : IsRest (.ds 1 [.agg [.ds 1 (x.sh.map fun n => .int .i64 n), .ds 1 (x.vl.map fun n => .int .i64 n)], .agg [.ds 0 (x'.sh.map fun n => .int .i64 n), .ds 0 (x'.vl.map fun n => .int .i64 n)]])
      (.ds 1 [.ds 1 (q.map fun n => .int .i64 n), .ds 0 (q'.map fun n => .int .i64 n)]) [x, x'] [q, q']
theorem gcV_t1 (n : Nat) (L : List Blk) (t u : Nat) (x : Tsr) : gcV n L (.ds t [.agg [.ds u (x.sh.map fun n => .int .i64 n), .ds u (x.vl.map fun n => .int .i64 n)]]) = .ds t [.agg [.ds u (x.sh.map fun n => .int .i64 n), .ds u (x.vl.map fun n => .int .i64 n)]] := by
  simp [gcV, expE, gcC, gcStep, Function.comp_def]
theorem gcV_r1 (n : Nat) (L : List Blk) (t u : Nat) (x : List Int) : gcV n L (.ds t [.ds u (x.map fun n => .int .i64 n)]) = .ds t [.ds u (x.map fun n => .int .i64 n)] := by
  simp [gcV, expE, gcC, gcStep, Function.comp_def]
theorem gcV_t2 (n : Nat) (L : List Blk) (t u v : Nat) (x y : Tsr) : gcV n L (.ds t [.agg [.ds u (x.sh.map fun n => .int .i64 n), .ds u (x.vl.map fun n => .int .i64 n)], .agg [.ds v (y.sh.map fun n => .int .i64 n), .ds v (y.vl.map fun n => .int .i64 n)]]) = .ds t [.agg [.ds u (x.sh.map fun n => .int .i64 n), .ds u (x.vl.map fun n => .int .i64 n)], .agg [.ds v (y.sh.map fun n => .int .i64 n), .ds v (y.vl.map fun n => .int .i64 n)]] := by
  simp [gcV, expE, gcC, gcStep, Function.comp_def]
theorem gcV_r2 (n : Nat) (L : List Blk) (t u v : Nat) (x y : List Int) : gcV n L (.ds t [.ds u (x.map fun n => .int .i64 n), .ds v (y.map fun n => .int .i64 n)]) = .ds t [.ds u (x.map fun n => .int .i64 n), .ds v (y.map fun n => .int .i64 n)] := by
  simp [gcV, expE, gcC, gcStep, Function.comp_def]
theorem gcV_st (B0 B1 B2 : Blk) (L : List Blk) (e u v : Nat) (x y : Tsr) : gcV 2 (B0 :: B1 :: B2 :: ⟨e, [.agg [.ds u (x.sh.map fun n => .int .i64 n), .ds u (x.vl.map fun n => .int .i64 n)], .agg [.ds v (y.sh.map fun n => .int .i64 n), .ds v (y.vl.map fun n => .int .i64 n)]]⟩ :: L) (.sl 3 2 0 2 2) = .ds 1 [.agg [.ds u (x.sh.map fun n => .int .i64 n), .ds u (x.vl.map fun n => .int .i64 n)], .agg [.ds v (y.sh.map fun n => .int .i64 n), .ds v (y.vl.map fun n => .int .i64 n)]] := by
  simp [gcV, expE, gcC, gcStep, Function.comp_def]
theorem gcV_sr (B0 B1 B2 B3 : Blk) (L : List Blk) (e u v : Nat) (x y : List Int) : gcV 2 (B0 :: B1 :: B2 :: B3 :: ⟨e, [.ds u (x.map fun n => .int .i64 n), .ds v (y.map fun n => .int .i64 n)]⟩ :: L) (.sl 4 2 0 2 2) = .ds 1 [.ds u (x.map fun n => .int .i64 n), .ds v (y.map fun n => .int .i64 n)] := by
  simp [gcV, expE, gcC, gcStep, Function.comp_def]
theorem gcV_tup (n : Nat) (L : List Blk) (l : List AV) : gcV n L (.tup l) = .tup (l.map (gE n L)) := rfl
theorem gcC_t1 (n : Nat) (L : List Blk) (u : Nat) (x : List Int) : gcC n L (.ds u (x.map fun n => .int .i64 n)) = .ds u (x.map fun n => .int .i64 n) := gcC_ints n L u x
theorem ee_t2w (L : List Blk) (t u v : Nat) (x y : Tsr) : expE (expC 0 L) (.ds t [.agg [.ds u (x.sh.map fun n => .int .i64 n), .ds u (x.vl.map fun n => .int .i64 n)], .agg [.ds v (y.sh.map fun n => .int .i64 n), .ds v (y.vl.map fun n => .int .i64 n)]]) = .ds 0 [.agg [.ds 0 (x.sh.map fun n => .int .i64 n), .ds 0 (x.vl.map fun n => .int .i64 n)], .agg [.ds 0 (y.sh.map fun n => .int .i64 n), .ds 0 (y.vl.map fun n => .int .i64 n)]] := ee_t2u L t u v x y
theorem own_R {R : Tsr × Bool} (h : R.2 = false → R.1 = ⟨[], []⟩) {L : List Blk} : OwnQ (oR R) (oN R) (oR R L.length) (L ++ oN R L.length) := by
  obtain ⟨⟨sh, vl⟩, o⟩ := R
  match o, sh with
  | false, s =>
    exact own_bad
  | true, [] =>
    exact own_nil (b := L.length) (by simp [oN])
  | true, a :: s =>
    exact own_two (x := ⟨a :: s, vl⟩) (b := L.length) (c := L.length + 1) (by simp [oN]) (by rw [List.getElem?_append_right (by omega), Nat.add_sub_cancel_left]; rfl) (by omega) (by simp)
set_option maxHeartbeats 4000000 in
set_option maxRecDepth 100000 in
theorem o_ContractByI {Sg Sd : FuncId → Option (List AV → Option AV)} (hS : Sound Try.prog Sg) (hD : Sound Try.prog Sd) (he : Sg 48 = some (F2 gExtentsOf)) (hp : Sg 49 = some (F3 gArePair)) (ha : Sg 50 = some (F1 gAreLabels)) (hk : Sg 51 = some (F4 gKept)) (hc : Sd 52 = some (F3 gContr3)) (n1 : Sg 52 = none) (l : List Tsr) (b : List (List Int)) (out : List Int) (i j : Int) (h1 : szOK l b) (h2 : out.length ≤ 1048576) (hs : ∀ {l b out}, szOK l b → out.length ≤ 1048576 → OSpec Try.prog 52 [.ds 0 (l.map fun x => .agg [ints 0 x.sh, ints 0 x.vl]), .ds 0 (b.map fun r => .ds 0 (r.map fun n => .int .i64 n)), ints 0 out] (oR (tsrT ((extF l b).bind (contrF l b out)))) (oN (tsrT ((extF l b).bind (contrF l b out))))) : OSpec Try.prog 14 [.ds 0 (l.map fun x => .agg [ints 0 x.sh, ints 0 x.vl]), .ds 0 (b.map fun r => .ds 0 (r.map fun n => .int .i64 n)), ints 0 out, i64 i, i64 j] (oR (tsrT (conBy l b out i j))) (oN (tsrT (conBy l b out i j))) := by
  refine OSpec.intro Try.func14 rfl (vc3_sound Try.pf hS hD _ _ _ ?_)
  cases hE : extF l b with
  | none =>
    rw [conBy_none hE]
    repeat' (first | with_reducible refine RegQ.intro (by kernel_rfl) ?_ | with_reducible refine DrawQ.nat (by kernel_rfl) ?_ | ((with_reducible refine condQ_dec (fun hp => ?_) (fun hp => ?_)) <;> try simp only [hp]) | with_reducible refine condQ_beq (fun hp => ?_) (fun hp => ?_) | ((with_reducible refine wantQ_dec (fun hp => ?_) (fun hp => ?_)) <;> try simp only [hp]) | with_reducible refine wantQ_beq (fun hp => ?_) (fun hp => ?_) | ((with_reducible refine condQ_split (fun hp => ?_) (fun hp => ?_)) <;> try simp only [hp]) | ((with_reducible refine wantQ_split (fun hp => ?_) (fun hp => ?_)) <;> try simp only [hp]) | simp -implicitDefEqProofs (disch := omega) only [go_sem, Nat.reduceAdd, Nat.reduceSub, reduceCtorEq, Nat.reduceLT, Nat.reduceLeDiff, Nat.reduceEqDiff, Nat.reduceMul, Int.reduceToNat, ↓reduceIte, List.take_of_length_le, evApp_n1, evApp_i0, evApp_i1, evApp_i2, evApp_i3, evApp_i4, evApp_i5, evApp_s0, evApp_s1, evApp_s2, evApp_s3, if_pos, if_neg, decide_eq_true, decide_eq_false, beq_t, beq_f, wrap_succ, wrap_in, getD_ints, getD_intss, getD_tsrs, fillA_len, fillA_at, fillA_full, evApp_z0, evApp_z1, evApp_z2, evApp_z3, evApp_i6, List.getElem?_set_self, List.set_set, evApp_d0, evApp_dT, evApp_dI, Try.ntmps14, Try.results14, he, gExtentsOf_eq h1, hE, extRes])
    exact own_bad
  | some e =>
    obtain ⟨e1, e2, e3, e4, e5⟩ := extF_len hE
    by_cases hpp : pairOK l.length i j ∧ labOK out = true
    · have q0 : (decide (0 ≤ i ∧ i < (l.length : Int) ∧ 0 ≤ j ∧ j < (l.length : Int) ∧ i ≠ j)) = true := decide_eq_true hpp.1
      have hx := extOK_of hE
      have hbl := hx.bl
      have hl3 := hx.l3
      have hpi : pairIn b.length i j := by obtain ⟨p1, p2, p3, p4, p5⟩ := hpp.1; exact ⟨p1, by omega, p3, by omega⟩
      have hk4 := (extF_facts hE).2.2
      have hb2 : keptB b out i j := ⟨⟨⟨by omega, by omega⟩, fun k hk => by have := hk4 k hk; omega⟩, hpi⟩
      have hK5 := keptF_len hb2 hx.lab
      have q4 : gKept b out i j = some (keptF b out i j) := gKept_eq hb2
      have q5 : gContr3 [l.getD i.toNat ⟨[], []⟩, l.getD j.toNat ⟨[], []⟩] [b.getD i.toNat [], b.getD j.toNat []] (keptF b out i j) = some (tsrT (con2 l b out i j)) := gContr3_eq ⟨sz_two h1 hbl hpp.1, by omega⟩
      obtain ⟨p1, p2, p3, p4, p5⟩ := id hpp.1
      obtain ⟨f, o, hf⟩ : ∃ f o, tsrT (con2 l b out i j) = (f, o) := ⟨_, _, rfl⟩
      rw [hf] at q5
      cases o with
      | false =>
        rw [conBy_two hE hpp hf]
        have := tsrT_false hf
        subst this
        repeat' (first | with_reducible refine RegQ.intro (by kernel_rfl) ?_ | with_reducible refine DrawQ.nat (by kernel_rfl) ?_ | ((with_reducible refine condQ_dec (fun hp => ?_) (fun hp => ?_)) <;> try simp only [hp]) | with_reducible refine condQ_beq (fun hp => ?_) (fun hp => ?_) | ((with_reducible refine wantQ_dec (fun hp => ?_) (fun hp => ?_)) <;> try simp only [hp]) | with_reducible refine wantQ_beq (fun hp => ?_) (fun hp => ?_) | ((with_reducible refine condQ_split (fun hp => ?_) (fun hp => ?_)) <;> try simp only [hp]) | ((with_reducible refine wantQ_split (fun hp => ?_) (fun hp => ?_)) <;> try simp only [hp]) | simp -implicitDefEqProofs (disch := omega) only [go_sem, Nat.reduceAdd, Nat.reduceSub, reduceCtorEq, Nat.reduceLT, Nat.reduceLeDiff, Nat.reduceEqDiff, Nat.reduceMul, Int.reduceToNat, ↓reduceIte, List.take_of_length_le, evApp_n1, evApp_i0, evApp_i1, evApp_i2, evApp_i3, evApp_i4, evApp_i5, evApp_s0, evApp_s1, evApp_s2, evApp_s3, if_pos, if_neg, decide_eq_true, decide_eq_false, beq_t, beq_f, wrap_succ, wrap_in, getD_ints, getD_intss, getD_tsrs, fillA_len, fillA_at, fillA_full, evApp_z0, evApp_z1, evApp_z2, evApp_z3, evApp_i6, List.getElem?_set_self, List.set_set, evApp_d0, evApp_dT, evApp_dI, Try.ntmps14, Try.results14, he, gExtentsOf_eq h1, hE, extRes, hp, gArePair_eq, q0, ha, gAreLabels_eq, hpp.2, hk, q4, hc, q5, ee_t2, dec_t2])
        exact own_bad
      | true =>
        rw [conBy_all hE hpp hf]
        have hf2 := (tsrT_true hf).2
        have hf3 := tsrOK_dims hf2
        have hf4 := tsr_vl60 hf2
        have hsz := sz_rest (out := out) (f := f) (i := i) (j := j) h1 hbl hl3 ⟨hf3.1, hf4⟩ hK5
        have oC := hs hsz h2
        rw [show (extF (f :: restT l i j l.length) (keptF b out i j :: restF b i j b.length)).bind (contrF (f :: restT l i j l.length) (keptF b out i j :: restF b i j b.length) out) = conR l b out i j f from rfl] at oC
        generalize tsrT (conR l b out i j f) = R at oC ⊢
        generalize keptF b out i j = K at *
        repeat' (first | with_reducible refine RegQ.intro (by kernel_rfl) ?_ | with_reducible refine DrawQ.nat (by kernel_rfl) ?_ | ((with_reducible refine condQ_dec (fun hp => ?_) (fun hp => ?_)) <;> try simp only [hp]) | with_reducible refine condQ_beq (fun hp => ?_) (fun hp => ?_) | ((with_reducible refine wantQ_dec (fun hp => ?_) (fun hp => ?_)) <;> try simp only [hp]) | with_reducible refine wantQ_beq (fun hp => ?_) (fun hp => ?_) | ((with_reducible refine condQ_split (fun hp => ?_) (fun hp => ?_)) <;> try simp only [hp]) | ((with_reducible refine wantQ_split (fun hp => ?_) (fun hp => ?_)) <;> try simp only [hp]) | simp -implicitDefEqProofs (disch := omega) only [go_sem, Nat.reduceAdd, Nat.reduceSub, reduceCtorEq, Nat.reduceLT, Nat.reduceLeDiff, Nat.reduceEqDiff, Nat.reduceMul, Int.reduceToNat, ↓reduceIte, List.take_of_length_le, evApp_n1, evApp_i0, evApp_i1, evApp_i2, evApp_i3, evApp_i4, evApp_i5, evApp_s0, evApp_s1, evApp_s2, evApp_s3, if_pos, if_neg, decide_eq_true, decide_eq_false, beq_t, beq_f, wrap_succ, wrap_in, getD_ints, getD_intss, getD_tsrs, fillA_len, fillA_at, fillA_full, evApp_z0, evApp_z1, evApp_z2, evApp_z3, evApp_i6, List.getElem?_set_self, List.set_set, evApp_d0, evApp_dT, evApp_dI, Try.ntmps14, Try.results14, he, gExtentsOf_eq h1, hE, extRes, hp, gArePair_eq, q0, ha, gAreLabels_eq, hpp.2, hk, q4, hc, q5, ee_t2, dec_t2])
        refine LoopQ.mixG 2 (fun t0 L0 nn ss => ∃ (m : Nat) (A E : AV) (ts : List Tsr) (ls : List (List Int)) (_ : Unit), (∃ x : Nat → AV, ss = ⟨mixL 0 (.k :: .k :: .k :: .k :: .k :: .k :: .k :: .k :: .k :: .k :: .k :: .k :: .k :: .k :: .k :: .k :: .k :: .v (A) :: .v (E) :: .s :: .s :: .k :: .k :: .k :: .k :: .k :: .k :: .k :: .k :: .k :: .k :: .k :: .k :: .k :: .k :: .k :: .k :: .k :: .k :: .k :: .k :: .k :: .k :: .k :: .k :: .k :: .k :: .k :: .k :: .k :: .s :: .k :: .k :: .k :: .s :: .k :: .s :: .k :: .k :: .s :: .k :: .k :: .k :: .s :: .k :: .s :: .k :: .k :: .k :: .k :: .k :: .k :: .k :: .k :: .k :: .k :: .k :: .k :: .k :: .v (i64 (m : Nat)) :: .s :: .s :: .s :: .s :: .s :: .s :: .s :: .s :: .s :: .s :: .s :: .s :: .s :: .s :: .s :: .s :: .s :: .s :: .s :: .s :: .s :: .s :: .s :: .s :: .k :: .k :: .k :: .k :: .k :: .k :: []) t0 x, L0⟩) ∧ (m ≤ l.length) ∧ (IsRest A E ts ls) ∧ (ts = f :: restT l i j m ∧ ls = K :: restF b i j m) ∧ nn = l.length - m) (by simp) ?_ ?_
        · exact ⟨_, ⟨0, _, _, [f], [K], (), mixI rfl, Nat.zero_le _, .one f K, ⟨rfl, rfl⟩, rfl⟩⟩
        · rintro I0 hI0 n s ⟨m, A, E, ts, ls, _, ⟨x, rfl⟩, g1, g2, ⟨g3, g4⟩, rfl⟩
          by_cases hm : m < l.length
          · have hmb : m < b.length := by omega
            rcases g2 with ⟨u, q⟩ | ⟨u, q, u', q'⟩
            · repeat' (first | with_reducible refine RegQ.intro (by kernel_rfl) ?_ | with_reducible refine DrawQ.nat (by kernel_rfl) ?_ | ((with_reducible refine condQ_dec (fun hp => ?_) (fun hp => ?_)) <;> try simp only [hp]) | with_reducible refine condQ_beq (fun hp => ?_) (fun hp => ?_) | ((with_reducible refine wantQ_dec (fun hp => ?_) (fun hp => ?_)) <;> try simp only [hp]) | with_reducible refine wantQ_beq (fun hp => ?_) (fun hp => ?_) | ((with_reducible refine condQ_split (fun hp => ?_) (fun hp => ?_)) <;> try simp only [hp]) | ((with_reducible refine wantQ_split (fun hp => ?_) (fun hp => ?_)) <;> try simp only [hp]) | simp -implicitDefEqProofs (disch := omega) only [go_sem, Nat.reduceAdd, Nat.reduceSub, reduceCtorEq, Nat.reduceLT, Nat.reduceLeDiff, Nat.reduceEqDiff, Nat.reduceMul, Int.reduceToNat, ↓reduceIte, List.take_of_length_le, evApp_n1, evApp_i0, evApp_i1, evApp_i2, evApp_i3, evApp_i4, evApp_i5, evApp_s0, evApp_s1, evApp_s2, evApp_s3, if_pos, if_neg, decide_eq_true, decide_eq_false, beq_t, beq_f, wrap_succ, wrap_in, getD_ints, getD_intss, getD_tsrs, fillA_len, fillA_at, fillA_full, evApp_z0, evApp_z1, evApp_z2, evApp_z3, evApp_i6, List.getElem?_set_self, List.set_set, evApp_d0, evApp_dT, evApp_dI, Try.ntmps14, Try.results14, gcV_tup, gcV_t1, gcV_r1, gcV_st, gcV_sr])
              · exact ⟨l.length - (m + 1), by omega, hI0 _ _ ⟨m + 1, _, _, _, _, (), mixI rfl, hm, .one u q, by rw [restT, restF, if_neg (fun h => h.1 hp), if_neg (fun h => h.1 hp), List.append_nil, List.append_nil]; exact ⟨g3, g4⟩, rfl⟩⟩
              · exact ⟨l.length - (m + 1), by omega, hI0 _ _ ⟨m + 1, _, _, _, _, (), mixI rfl, hm, .one u q, by rw [restT, restF, if_neg (fun h => h.2 hp), if_neg (fun h => h.2 hp), List.append_nil, List.append_nil]; exact ⟨g3, g4⟩, rfl⟩⟩
              · rename_i hi
                exact ⟨l.length - (m + 1), by omega, hI0 _ _ ⟨m + 1, _, _, _, _, (), mixI rfl, hm, .two u q (l.getD m ⟨[], []⟩) (b.getD m []), by rw [restT, restF, if_pos ⟨hi, hp⟩, if_pos ⟨hi, hp⟩, ← List.cons_append, ← List.cons_append, ← g3, ← g4]; exact ⟨rfl, rfl⟩, rfl⟩⟩
            · have hno : ¬ ((m : Int) ≠ i ∧ (m : Int) ≠ j) := by
                intro hc
                have h7 := restF_one (b := b) hl3 hpp.1 (k := m + 1) (by omega)
                rw [restF, if_pos hc, List.length_append, List.length_singleton] at h7
                have h8 := congrArg List.length g4
                simp only [List.length_cons, List.length_nil] at h8
                omega
              repeat' (first | with_reducible refine RegQ.intro (by kernel_rfl) ?_ | with_reducible refine DrawQ.nat (by kernel_rfl) ?_ | ((with_reducible refine condQ_dec (fun hp => ?_) (fun hp => ?_)) <;> try simp only [hp]) | with_reducible refine condQ_beq (fun hp => ?_) (fun hp => ?_) | ((with_reducible refine wantQ_dec (fun hp => ?_) (fun hp => ?_)) <;> try simp only [hp]) | with_reducible refine wantQ_beq (fun hp => ?_) (fun hp => ?_) | ((with_reducible refine condQ_split (fun hp => ?_) (fun hp => ?_)) <;> try simp only [hp]) | ((with_reducible refine wantQ_split (fun hp => ?_) (fun hp => ?_)) <;> try simp only [hp]) | simp -implicitDefEqProofs (disch := omega) only [go_sem, Nat.reduceAdd, Nat.reduceSub, reduceCtorEq, Nat.reduceLT, Nat.reduceLeDiff, Nat.reduceEqDiff, Nat.reduceMul, Int.reduceToNat, ↓reduceIte, List.take_of_length_le, evApp_n1, evApp_i0, evApp_i1, evApp_i2, evApp_i3, evApp_i4, evApp_i5, evApp_s0, evApp_s1, evApp_s2, evApp_s3, if_pos, if_neg, decide_eq_true, decide_eq_false, beq_t, beq_f, wrap_succ, wrap_in, getD_ints, getD_intss, getD_tsrs, fillA_len, fillA_at, fillA_full, evApp_z0, evApp_z1, evApp_z2, evApp_z3, evApp_i6, List.getElem?_set_self, List.set_set, evApp_d0, evApp_dT, evApp_dI, Try.ntmps14, Try.results14, gcV_tup, gcV_t1, gcV_r1, gcV_t2, gcV_r2])
              · exact ⟨l.length - (m + 1), by omega, hI0 _ _ ⟨m + 1, _, _, _, _, (), mixI rfl, hm, .two u q u' q', by rw [restT, restF, if_neg hno, if_neg hno, List.append_nil, List.append_nil]; exact ⟨g3, g4⟩, rfl⟩⟩
              · exact ⟨l.length - (m + 1), by omega, hI0 _ _ ⟨m + 1, _, _, _, _, (), mixI rfl, hm, .two u q u' q', by rw [restT, restF, if_neg hno, if_neg hno, List.append_nil, List.append_nil]; exact ⟨g3, g4⟩, rfl⟩⟩
          · obtain rfl : m = l.length := by omega
            rw [← hbl] at g4
            rw [← g3, ← g4] at oC
            rcases g2 with ⟨u, q⟩ | ⟨u, q, u', q'⟩
            · repeat' (first | with_reducible refine RegQ.intro (by kernel_rfl) ?_ | with_reducible refine DrawQ.nat (by kernel_rfl) ?_ | ((with_reducible refine condQ_dec (fun hp => ?_) (fun hp => ?_)) <;> try simp only [hp]) | with_reducible refine condQ_beq (fun hp => ?_) (fun hp => ?_) | ((with_reducible refine wantQ_dec (fun hp => ?_) (fun hp => ?_)) <;> try simp only [hp]) | with_reducible refine wantQ_beq (fun hp => ?_) (fun hp => ?_) | ((with_reducible refine condQ_split (fun hp => ?_) (fun hp => ?_)) <;> try simp only [hp]) | ((with_reducible refine wantQ_split (fun hp => ?_) (fun hp => ?_)) <;> try simp only [hp]) | simp -implicitDefEqProofs (disch := omega) only [go_sem, Nat.reduceAdd, Nat.reduceSub, reduceCtorEq, Nat.reduceLT, Nat.reduceLeDiff, Nat.reduceEqDiff, Nat.reduceMul, Int.reduceToNat, ↓reduceIte, List.take_of_length_le, evApp_n1, evApp_i0, evApp_i1, evApp_i2, evApp_i3, evApp_i4, evApp_i5, evApp_s0, evApp_s1, evApp_s2, evApp_s3, if_pos, if_neg, decide_eq_true, decide_eq_false, beq_t, beq_f, wrap_succ, wrap_in, getD_ints, getD_intss, getD_tsrs, fillA_len, fillA_at, fillA_full, evApp_z0, evApp_z1, evApp_z2, evApp_z3, evApp_i6, List.getElem?_set_self, List.set_set, evApp_d0, evApp_dT, evApp_dI, Try.ntmps14, Try.results14, n1, opQ_none])
              refine InlK_intro rfl rfl can_contrI (oC.call (by simp only [go_sem, ints, ee_t1u]) ?_)
              obtain ⟨⟨sh, vl⟩, o⟩ := R
              match o, sh with
              | false, _ =>
                repeat' (first | with_reducible refine RegQ.intro (by kernel_rfl) ?_ | with_reducible refine DrawQ.nat (by kernel_rfl) ?_ | ((with_reducible refine condQ_dec (fun hp => ?_) (fun hp => ?_)) <;> try simp only [hp]) | with_reducible refine condQ_beq (fun hp => ?_) (fun hp => ?_) | ((with_reducible refine wantQ_dec (fun hp => ?_) (fun hp => ?_)) <;> try simp only [hp]) | with_reducible refine wantQ_beq (fun hp => ?_) (fun hp => ?_) | ((with_reducible refine condQ_split (fun hp => ?_) (fun hp => ?_)) <;> try simp only [hp]) | ((with_reducible refine wantQ_split (fun hp => ?_) (fun hp => ?_)) <;> try simp only [hp]) | simp -implicitDefEqProofs (disch := omega) only [go_sem, Nat.reduceAdd, Nat.reduceSub, reduceCtorEq, Nat.reduceLT, Nat.reduceLeDiff, Nat.reduceEqDiff, Nat.reduceMul, Int.reduceToNat, ↓reduceIte, List.take_of_length_le, evApp_n1, evApp_i0, evApp_i1, evApp_i2, evApp_i3, evApp_i4, evApp_i5, evApp_s0, evApp_s1, evApp_s2, evApp_s3, if_pos, if_neg, decide_eq_true, decide_eq_false, beq_t, beq_f, wrap_succ, wrap_in, getD_ints, getD_intss, getD_tsrs, fillA_len, fillA_at, fillA_full, evApp_z0, evApp_z1, evApp_z2, evApp_z3, evApp_i6, List.getElem?_set_self, List.set_set, evApp_d0, evApp_dT, evApp_dI, Try.ntmps14, Try.results14, oR, oN])
                exact own_bad
              | true, [] =>
                repeat' (first | with_reducible refine RegQ.intro (by kernel_rfl) ?_ | with_reducible refine DrawQ.nat (by kernel_rfl) ?_ | ((with_reducible refine condQ_dec (fun hp => ?_) (fun hp => ?_)) <;> try simp only [hp]) | with_reducible refine condQ_beq (fun hp => ?_) (fun hp => ?_) | ((with_reducible refine wantQ_dec (fun hp => ?_) (fun hp => ?_)) <;> try simp only [hp]) | with_reducible refine wantQ_beq (fun hp => ?_) (fun hp => ?_) | ((with_reducible refine condQ_split (fun hp => ?_) (fun hp => ?_)) <;> try simp only [hp]) | ((with_reducible refine wantQ_split (fun hp => ?_) (fun hp => ?_)) <;> try simp only [hp]) | simp -implicitDefEqProofs (disch := omega) only [go_sem, Nat.reduceAdd, Nat.reduceSub, reduceCtorEq, Nat.reduceLT, Nat.reduceLeDiff, Nat.reduceEqDiff, Nat.reduceMul, Int.reduceToNat, ↓reduceIte, List.take_of_length_le, evApp_n1, evApp_i0, evApp_i1, evApp_i2, evApp_i3, evApp_i4, evApp_i5, evApp_s0, evApp_s1, evApp_s2, evApp_s3, if_pos, if_neg, decide_eq_true, decide_eq_false, beq_t, beq_f, wrap_succ, wrap_in, getD_ints, getD_intss, getD_tsrs, fillA_len, fillA_at, fillA_full, evApp_z0, evApp_z1, evApp_z2, evApp_z3, evApp_i6, List.getElem?_set_self, List.set_set, evApp_d0, evApp_dT, evApp_dI, Try.ntmps14, Try.results14, oR, oN])
                exact own_nil (b := 2) rfl
              | true, a :: s =>
                repeat' (first | with_reducible refine RegQ.intro (by kernel_rfl) ?_ | with_reducible refine DrawQ.nat (by kernel_rfl) ?_ | ((with_reducible refine condQ_dec (fun hp => ?_) (fun hp => ?_)) <;> try simp only [hp]) | with_reducible refine condQ_beq (fun hp => ?_) (fun hp => ?_) | ((with_reducible refine wantQ_dec (fun hp => ?_) (fun hp => ?_)) <;> try simp only [hp]) | with_reducible refine wantQ_beq (fun hp => ?_) (fun hp => ?_) | ((with_reducible refine condQ_split (fun hp => ?_) (fun hp => ?_)) <;> try simp only [hp]) | ((with_reducible refine wantQ_split (fun hp => ?_) (fun hp => ?_)) <;> try simp only [hp]) | simp -implicitDefEqProofs (disch := omega) only [go_sem, Nat.reduceAdd, Nat.reduceSub, reduceCtorEq, Nat.reduceLT, Nat.reduceLeDiff, Nat.reduceEqDiff, Nat.reduceMul, Int.reduceToNat, ↓reduceIte, List.take_of_length_le, evApp_n1, evApp_i0, evApp_i1, evApp_i2, evApp_i3, evApp_i4, evApp_i5, evApp_s0, evApp_s1, evApp_s2, evApp_s3, if_pos, if_neg, decide_eq_true, decide_eq_false, beq_t, beq_f, wrap_succ, wrap_in, getD_ints, getD_intss, getD_tsrs, fillA_len, fillA_at, fillA_full, evApp_z0, evApp_z1, evApp_z2, evApp_z3, evApp_i6, List.getElem?_set_self, List.set_set, evApp_d0, evApp_dT, evApp_dI, Try.ntmps14, Try.results14, oR, oN])
                exact own_two (x := ⟨a :: s, vl⟩) (b := 2) (c := 3) rfl rfl (by decide) (by simp)
            · repeat' (first | with_reducible refine RegQ.intro (by kernel_rfl) ?_ | with_reducible refine DrawQ.nat (by kernel_rfl) ?_ | ((with_reducible refine condQ_dec (fun hp => ?_) (fun hp => ?_)) <;> try simp only [hp]) | with_reducible refine condQ_beq (fun hp => ?_) (fun hp => ?_) | ((with_reducible refine wantQ_dec (fun hp => ?_) (fun hp => ?_)) <;> try simp only [hp]) | with_reducible refine wantQ_beq (fun hp => ?_) (fun hp => ?_) | ((with_reducible refine condQ_split (fun hp => ?_) (fun hp => ?_)) <;> try simp only [hp]) | ((with_reducible refine wantQ_split (fun hp => ?_) (fun hp => ?_)) <;> try simp only [hp]) | simp -implicitDefEqProofs (disch := omega) only [go_sem, Nat.reduceAdd, Nat.reduceSub, reduceCtorEq, Nat.reduceLT, Nat.reduceLeDiff, Nat.reduceEqDiff, Nat.reduceMul, Int.reduceToNat, ↓reduceIte, List.take_of_length_le, evApp_n1, evApp_i0, evApp_i1, evApp_i2, evApp_i3, evApp_i4, evApp_i5, evApp_s0, evApp_s1, evApp_s2, evApp_s3, if_pos, if_neg, decide_eq_true, decide_eq_false, beq_t, beq_f, wrap_succ, wrap_in, getD_ints, getD_intss, getD_tsrs, fillA_len, fillA_at, fillA_full, evApp_z0, evApp_z1, evApp_z2, evApp_z3, evApp_i6, List.getElem?_set_self, List.set_set, evApp_d0, evApp_dT, evApp_dI, Try.ntmps14, Try.results14, n1, opQ_none])
              refine InlK_intro rfl rfl can_contrI (oC.call (by simp only [go_sem, ints, ee_t2u]) ?_)
              obtain ⟨⟨sh, vl⟩, o⟩ := R
              match o, sh with
              | false, _ =>
                repeat' (first | with_reducible refine RegQ.intro (by kernel_rfl) ?_ | with_reducible refine DrawQ.nat (by kernel_rfl) ?_ | ((with_reducible refine condQ_dec (fun hp => ?_) (fun hp => ?_)) <;> try simp only [hp]) | with_reducible refine condQ_beq (fun hp => ?_) (fun hp => ?_) | ((with_reducible refine wantQ_dec (fun hp => ?_) (fun hp => ?_)) <;> try simp only [hp]) | with_reducible refine wantQ_beq (fun hp => ?_) (fun hp => ?_) | ((with_reducible refine condQ_split (fun hp => ?_) (fun hp => ?_)) <;> try simp only [hp]) | ((with_reducible refine wantQ_split (fun hp => ?_) (fun hp => ?_)) <;> try simp only [hp]) | simp -implicitDefEqProofs (disch := omega) only [go_sem, Nat.reduceAdd, Nat.reduceSub, reduceCtorEq, Nat.reduceLT, Nat.reduceLeDiff, Nat.reduceEqDiff, Nat.reduceMul, Int.reduceToNat, ↓reduceIte, List.take_of_length_le, evApp_n1, evApp_i0, evApp_i1, evApp_i2, evApp_i3, evApp_i4, evApp_i5, evApp_s0, evApp_s1, evApp_s2, evApp_s3, if_pos, if_neg, decide_eq_true, decide_eq_false, beq_t, beq_f, wrap_succ, wrap_in, getD_ints, getD_intss, getD_tsrs, fillA_len, fillA_at, fillA_full, evApp_z0, evApp_z1, evApp_z2, evApp_z3, evApp_i6, List.getElem?_set_self, List.set_set, evApp_d0, evApp_dT, evApp_dI, Try.ntmps14, Try.results14, oR, oN])
                exact own_bad
              | true, [] =>
                repeat' (first | with_reducible refine RegQ.intro (by kernel_rfl) ?_ | with_reducible refine DrawQ.nat (by kernel_rfl) ?_ | ((with_reducible refine condQ_dec (fun hp => ?_) (fun hp => ?_)) <;> try simp only [hp]) | with_reducible refine condQ_beq (fun hp => ?_) (fun hp => ?_) | ((with_reducible refine wantQ_dec (fun hp => ?_) (fun hp => ?_)) <;> try simp only [hp]) | with_reducible refine wantQ_beq (fun hp => ?_) (fun hp => ?_) | ((with_reducible refine condQ_split (fun hp => ?_) (fun hp => ?_)) <;> try simp only [hp]) | ((with_reducible refine wantQ_split (fun hp => ?_) (fun hp => ?_)) <;> try simp only [hp]) | simp -implicitDefEqProofs (disch := omega) only [go_sem, Nat.reduceAdd, Nat.reduceSub, reduceCtorEq, Nat.reduceLT, Nat.reduceLeDiff, Nat.reduceEqDiff, Nat.reduceMul, Int.reduceToNat, ↓reduceIte, List.take_of_length_le, evApp_n1, evApp_i0, evApp_i1, evApp_i2, evApp_i3, evApp_i4, evApp_i5, evApp_s0, evApp_s1, evApp_s2, evApp_s3, if_pos, if_neg, decide_eq_true, decide_eq_false, beq_t, beq_f, wrap_succ, wrap_in, getD_ints, getD_intss, getD_tsrs, fillA_len, fillA_at, fillA_full, evApp_z0, evApp_z1, evApp_z2, evApp_z3, evApp_i6, List.getElem?_set_self, List.set_set, evApp_d0, evApp_dT, evApp_dI, Try.ntmps14, Try.results14, oR, oN])
                exact own_nil (b := 2) rfl
              | true, a :: s =>
                repeat' (first | with_reducible refine RegQ.intro (by kernel_rfl) ?_ | with_reducible refine DrawQ.nat (by kernel_rfl) ?_ | ((with_reducible refine condQ_dec (fun hp => ?_) (fun hp => ?_)) <;> try simp only [hp]) | with_reducible refine condQ_beq (fun hp => ?_) (fun hp => ?_) | ((with_reducible refine wantQ_dec (fun hp => ?_) (fun hp => ?_)) <;> try simp only [hp]) | with_reducible refine wantQ_beq (fun hp => ?_) (fun hp => ?_) | ((with_reducible refine condQ_split (fun hp => ?_) (fun hp => ?_)) <;> try simp only [hp]) | ((with_reducible refine wantQ_split (fun hp => ?_) (fun hp => ?_)) <;> try simp only [hp]) | simp -implicitDefEqProofs (disch := omega) only [go_sem, Nat.reduceAdd, Nat.reduceSub, reduceCtorEq, Nat.reduceLT, Nat.reduceLeDiff, Nat.reduceEqDiff, Nat.reduceMul, Int.reduceToNat, ↓reduceIte, List.take_of_length_le, evApp_n1, evApp_i0, evApp_i1, evApp_i2, evApp_i3, evApp_i4, evApp_i5, evApp_s0, evApp_s1, evApp_s2, evApp_s3, if_pos, if_neg, decide_eq_true, decide_eq_false, beq_t, beq_f, wrap_succ, wrap_in, getD_ints, getD_intss, getD_tsrs, fillA_len, fillA_at, fillA_full, evApp_z0, evApp_z1, evApp_z2, evApp_z3, evApp_i6, List.getElem?_set_self, List.set_set, evApp_d0, evApp_dT, evApp_dI, Try.ntmps14, Try.results14, oR, oN])
                exact own_two (x := ⟨a :: s, vl⟩) (b := 2) (c := 3) rfl rfl (by decide) (by simp)
    · rw [conBy_bad hE hpp]
      by_cases hpo : pairOK l.length i j
      · have q0 : (decide (0 ≤ i ∧ i < (l.length : Int) ∧ 0 ≤ j ∧ j < (l.length : Int) ∧ i ≠ j)) = true := decide_eq_true hpo
        have q1 : labOK out = false := by cases h : labOK out with | false => rfl | true => exact absurd ⟨hpo, h⟩ hpp
        repeat' (first | with_reducible refine RegQ.intro (by kernel_rfl) ?_ | with_reducible refine DrawQ.nat (by kernel_rfl) ?_ | ((with_reducible refine condQ_dec (fun hp => ?_) (fun hp => ?_)) <;> try simp only [hp]) | with_reducible refine condQ_beq (fun hp => ?_) (fun hp => ?_) | ((with_reducible refine wantQ_dec (fun hp => ?_) (fun hp => ?_)) <;> try simp only [hp]) | with_reducible refine wantQ_beq (fun hp => ?_) (fun hp => ?_) | ((with_reducible refine condQ_split (fun hp => ?_) (fun hp => ?_)) <;> try simp only [hp]) | ((with_reducible refine wantQ_split (fun hp => ?_) (fun hp => ?_)) <;> try simp only [hp]) | simp -implicitDefEqProofs (disch := omega) only [go_sem, Nat.reduceAdd, Nat.reduceSub, reduceCtorEq, Nat.reduceLT, Nat.reduceLeDiff, Nat.reduceEqDiff, Nat.reduceMul, Int.reduceToNat, ↓reduceIte, List.take_of_length_le, evApp_n1, evApp_i0, evApp_i1, evApp_i2, evApp_i3, evApp_i4, evApp_i5, evApp_s0, evApp_s1, evApp_s2, evApp_s3, if_pos, if_neg, decide_eq_true, decide_eq_false, beq_t, beq_f, wrap_succ, wrap_in, getD_ints, getD_intss, getD_tsrs, fillA_len, fillA_at, fillA_full, evApp_z0, evApp_z1, evApp_z2, evApp_z3, evApp_i6, List.getElem?_set_self, List.set_set, evApp_d0, evApp_dT, evApp_dI, Try.ntmps14, Try.results14, he, gExtentsOf_eq h1, hE, extRes, hp, gArePair_eq, q0, ha, gAreLabels_eq, q1])
        exact own_bad
      · have q0 : (decide (0 ≤ i ∧ i < (l.length : Int) ∧ 0 ≤ j ∧ j < (l.length : Int) ∧ i ≠ j)) = false := decide_eq_false hpo
        repeat' (first | with_reducible refine RegQ.intro (by kernel_rfl) ?_ | with_reducible refine DrawQ.nat (by kernel_rfl) ?_ | ((with_reducible refine condQ_dec (fun hp => ?_) (fun hp => ?_)) <;> try simp only [hp]) | with_reducible refine condQ_beq (fun hp => ?_) (fun hp => ?_) | ((with_reducible refine wantQ_dec (fun hp => ?_) (fun hp => ?_)) <;> try simp only [hp]) | with_reducible refine wantQ_beq (fun hp => ?_) (fun hp => ?_) | ((with_reducible refine condQ_split (fun hp => ?_) (fun hp => ?_)) <;> try simp only [hp]) | ((with_reducible refine wantQ_split (fun hp => ?_) (fun hp => ?_)) <;> try simp only [hp]) | simp -implicitDefEqProofs (disch := omega) only [go_sem, Nat.reduceAdd, Nat.reduceSub, reduceCtorEq, Nat.reduceLT, Nat.reduceLeDiff, Nat.reduceEqDiff, Nat.reduceMul, Int.reduceToNat, ↓reduceIte, List.take_of_length_le, evApp_n1, evApp_i0, evApp_i1, evApp_i2, evApp_i3, evApp_i4, evApp_i5, evApp_s0, evApp_s1, evApp_s2, evApp_s3, if_pos, if_neg, decide_eq_true, decide_eq_false, beq_t, beq_f, wrap_succ, wrap_in, getD_ints, getD_intss, getD_tsrs, fillA_len, fillA_at, fillA_full, evApp_z0, evApp_z1, evApp_z2, evApp_z3, evApp_i6, List.getElem?_set_self, List.set_set, evApp_d0, evApp_dT, evApp_dI, Try.ntmps14, Try.results14, he, gExtentsOf_eq h1, hE, extRes, hp, gArePair_eq, q0])
        exact own_bad
end Go.Proofs.Ytfjhhbpipococaa
