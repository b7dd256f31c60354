/- Contracts of functions on views and memories that the laws of this seat call. -/
import Derived.Test.YtkmnepmnjpdpkaaGreatDoorWC
import Derived.Test.YtkmnepmnjpdpkaaGreatDoorEvC
set_option linter.all false
namespace Go.Proofs.YtkmnepmnjpdpkaaGreatDoor
open Go Go.Ev Go.RowKit Go.Ev.Enc Go.Pl

structure Ex where
  p : Int
  v : Vi
  o : Bool
  deriving DecidableEq
abbrev exA (t : Nat) (x : Ex) : AV := .agg [.int .i64 x.p, .int .i64 x.v.b, ints t x.v.sh, ints t x.v.st, .bool x.o]
abbrev exL (t : Nat) (l : List Ex) : List AV := l.map fun x => .agg [.int .i64 x.p, .int .i64 x.v.b, ints t x.v.sh, ints t x.v.st, .bool x.o]
def ex0 : Ex := ⟨0, ⟨0, [], []⟩, false⟩
instance : Enc Ex where
  enc t x := exA t x
  dec | .agg [p, z, x, y, o] => (dec p).bind fun p => (dec z).bind fun n => (dec x).bind fun a => (dec y).bind fun b => (dec o).map fun o => ⟨p, ⟨n, a, b⟩, o⟩
      | _ => none
  ok x a := by
    constructor
    · intro h
      split at h
      · simp only [Option.bind_eq_some_iff, Option.map_eq_some_iff] at h
        obtain ⟨p, hp, n, hn, q, hq, r, hr, o, ho, rfl⟩ := h
        rw [(ok _ _).1 hp, (ok _ _).1 hn, (ok _ _).1 hq, (ok _ _).1 hr, (ok _ _).1 ho]; rfl
      · simp at h
    · rintro rfl
      show ((dec (enc 0 a.p)).bind fun p => (dec (enc 0 a.v.b)).bind fun n => (dec (enc 0 a.v.sh)).bind fun q => (dec (enc 0 a.v.st)).bind fun r => (dec (enc 0 a.o)).map fun o => (⟨p, ⟨n, q, r⟩, o⟩ : Ex)) = some a
      rw [(ok _ a.p).2 rfl, (ok _ a.v.b).2 rfl, (ok _ a.v.sh).2 rfl, (ok _ a.v.st).2 rfl, (ok _ a.o).2 rfl]; rfl
  own a := .agg _ (by
    intro x hx
    simp only [List.mem_cons, List.not_mem_nil, or_false] at hx
    rcases hx with rfl | rfl | rfl | rfl | rfl
    · exact own a.p
    · exact own a.v.b
    · exact own a.v.sh
    · exact own a.v.st
    · exact own a.o)
structure Bf where
  c : List Int
  e : List Ex
  deriving DecidableEq
abbrev bfA (t : Nat) (b : Bf) : AV := .agg [ints t b.c, .ds t (exL t b.e)]
instance : Enc Bf where
  enc t x := bfA t x
  dec | .agg [x, y] => (dec x).bind fun a => (dec y).map fun b => ⟨a, b⟩
      | _ => none
  ok x a := by
    constructor
    · intro h
      split at h
      · simp only [Option.bind_eq_some_iff, Option.map_eq_some_iff] at h
        obtain ⟨p, hp, q, hq, rfl⟩ := h
        rw [(ok _ _).1 hp, (ok _ _).1 hq]; rfl
      · simp at h
    · rintro rfl
      show ((dec (enc 0 a.c)).bind fun p => (dec (enc 0 a.e)).map fun q => (⟨p, q⟩ : Bf)) = some a
      rw [(ok _ a.c).2 rfl, (ok _ a.e).2 rfl]; rfl
  own a := .agg _ (by
    intro x hx
    simp only [List.mem_cons, List.not_mem_nil, or_false] at hx
    rcases hx with rfl | rfl
    · exact own a.c
    · exact own a.e)
theorem enc_ex (t : Nat) (x : Ex) : (enc t x : AV) = .agg [.int .i64 x.p, .int .i64 x.v.b, ints t x.v.sh, ints t x.v.st, .bool x.o] := rfl
theorem enc_exs (t : Nat) (l : List Ex) : (enc t l : AV) = .ds t (exL t l) := rfl
theorem enc_bf (t : Nat) (x : Bf) : (enc t x : AV) = .agg [ints t x.c, .ds t (exL t x.e)] := rfl
theorem dec_ex (p n : Int) (a b : List Int) (o : Bool) : (dec (.agg [.int .i64 p, .int .i64 n, ints 0 a, ints 0 b, .bool o]) : Option Ex) = some ⟨p, ⟨n, a, b⟩, o⟩ := (ok _ _).2 rfl
theorem dec_exs (l : List Ex) : (dec (.ds 0 (exL 0 l)) : Option (List Ex)) = some l := (ok _ _).2 rfl
theorem dec_bf (c : List Int) (l : List Ex) : (dec (.agg [ints 0 c, .ds 0 (exL 0 l)]) : Option Bf) = some ⟨c, l⟩ := (ok _ _).2 rfl
theorem dec_bf0 (c : List Int) : (dec (.agg [ints 0 c, .ds 0 []]) : Option Bf) = some ⟨c, []⟩ := (ok _ _).2 rfl
theorem dec_bf1 (l : List Ex) : (dec (.agg [.ds 0 [], .ds 0 (exL 0 l)]) : Option Bf) = some ⟨[], l⟩ := (ok _ _).2 rfl
theorem dec_bf2 : (dec (.agg [.ds 0 [], .ds 0 []]) : Option Bf) = some ⟨[], []⟩ := (ok _ _).2 rfl
theorem ee_exs (t t' : Nat) (L : List Blk) (l : List Ex) : expE (expC t L) (.ds t' (exL t' l)) = .ds (min t' t) (exL (min t' t) l) := by
  simp [expE, expC, stepC, Function.comp_def]
theorem getD_exs {t : Nat} {l : List Ex} {k : Nat} (h : k < l.length) : (exL t l).getD k .any = .agg [.int .i64 (l.getD k ex0).p, .int .i64 (l.getD k ex0).v.b, ints t (l.getD k ex0).v.sh, ints t (l.getD k ex0).v.st, .bool (l.getD k ex0).o] := by simp [h]
theorem gcV_exs (n : Nat) (L : List Blk) (t : Nat) (l : List Ex) : gcV n L (.ds t (exL t l)) = .ds t (exL t l) := by
  simp [gcV, expE, gcC, gcStep, Function.comp_def]
theorem gcC_exs (n : Nat) (L : List Blk) (t : Nat) (l : List Ex) : gcC n L (.ds t (exL t l)) = .ds t (exL t l) := gcV_exs n L t l
theorem expS_exs (t t' : Nat) (L : List Blk) (e ver off len : Nat) (q : List Ex) : expS t L ver off len (some ⟨e, exL t' q⟩) = if q.length = ver ∧ off + len ≤ ver then .ds t (exL (min t' t) ((q.drop off).take len)) else .any := by
  simp [expS, expE, stepC, Function.comp_def]
theorem len_exs (t : Nat) (l : List Ex) : (exL t l).length = l.length := List.length_map _
theorem all_exs_ok (t : Nat) (l : List Ex) : ((exL t l).all fun y => cellsOk y && decide (y.cells.length = 5)) = true := by
  rw [List.all_eq_true]
  intro x hx
  obtain ⟨n, -, rfl⟩ := List.mem_map.1 hx
  rfl
theorem all_exs_5 (t : Nat) (l : List Ex) : ((exL t l).all fun y => decide (5 = y.cells.length)) = true := by
  rw [List.all_eq_true]
  intro x hx
  obtain ⟨n, -, rfl⟩ := List.mem_map.1 hx
  rfl
theorem enc_pairB (t : Nat) (p : Bf × Bool) : (enc t p : AV) = .tup [.agg [ints t p.1.c, .ds t (exL t p.1.e)], .bool p.2] := rfl
attribute [go_sem] enc_ex enc_exs enc_bf dec_ex dec_exs dec_bf dec_bf0 dec_bf1 dec_bf2 ee_exs gcV_exs gcC_exs expS_exs all_exs_ok all_exs_5
abbrev exB (t : Nat) (l : List Ex) : Blk := ⟨5, exL t l⟩
def exOK (n : Int) (E : List Ex) (i : Nat) : Bool :=
  inR (E.getD i ex0).p (-1) ((i : Int) - 1) && (viewOK (E.getD i ex0).v && (!(E.getD i ex0).o || (fitB (E.getD i ex0).v n && (decide ((E.getD i ex0).p < 0) || (E.getD (E.getD i ex0).p.toNat ex0).o))))
def bufOK (B : Bf) : Bool := memOK B.c && (decide (B.e.length ≤ 8) && (List.range B.e.length).all fun i => exOK B.c.length B.e i)
theorem bufOK_iff {B : Bf} : bufOK B = true ↔ memOK B.c = true ∧ B.e.length ≤ 8 ∧ ∀ i, i < B.e.length → exOK B.c.length B.e i = true := by
  unfold bufOK
  simp [List.all_eq_true]
theorem exOK_iff {n : Int} {E : List Ex} {i : Nat} : exOK n E i = true ↔ (-1 ≤ (E.getD i ex0).p ∧ (E.getD i ex0).p < i) ∧ viewOK (E.getD i ex0).v = true ∧ ((E.getD i ex0).o = true → fitB (E.getD i ex0).v n = true ∧ ((E.getD i ex0).p < 0 ∨ (E.getD (E.getD i ex0).p.toNat ex0).o = true)) := by
  unfold exOK inR
  simp only [Bool.and_eq_true, decide_eq_true_eq, Bool.or_eq_true, Bool.not_eq_true']
  constructor
  · rintro ⟨h1, h2, h3⟩
    refine ⟨by omega, h2, fun ho => ?_⟩
    rcases h3 with h3 | h3
    · rw [ho] at h3; simp at h3
    · exact h3
  · rintro ⟨h1, h2, h3⟩
    refine ⟨by omega, h2, ?_⟩
    cases ho : (E.getD i ex0).o with
    | false => exact .inl rfl
    | true => exact .inr (h3 ho)
def bfB (B : Bf) : Prop := B.c.length < 4294967296 ∧ B.e.length < 4294967296 ∧ ∀ i, i < B.e.length → viB (B.e.getD i ex0).v
theorem bfB_of {B : Bf} (h : bufOK B = true) : bfB B := by
  obtain ⟨h1, h2, h3⟩ := bufOK_iff.1 h
  have := (memOK_iff.1 h1).1
  exact ⟨by omega, by omega, fun i hi => ok_viB (exOK_iff.1 (h3 i hi)).2.1⟩
instance (B : Bf) : Decidable (bfB B) := by unfold bfB; infer_instance
def gBuf (B : Bf) : Option Bool := gd (bfB B) (bufOK B)
theorem gBuf_eq {B : Bf} (h : bfB B) : gBuf B = some (bufOK B) := gd_eq h
theorem bufOK_no {B : Bf} {i : Nat} (hi : i < B.e.length) (h : exOK B.c.length B.e i = false) : bufOK B = false := by
  cases hb : bufOK B with
  | false => rfl
  | true => rw [(bufOK_iff.1 hb).2.2 i hi] at h; cases h
theorem bufOK_m {B : Bf} (h : memOK B.c = false) : bufOK B = false := by unfold bufOK; rw [h]; rfl
theorem bufOK_8 {B : Bf} (h : ¬ B.e.length ≤ 8) : bufOK B = false := by
  cases hb : bufOK B with
  | false => rfl
  | true => exact absurd (bufOK_iff.1 hb).2.1 h
theorem bufOK_y {B : Bf} (h1 : memOK B.c = true) (h2 : B.e.length ≤ 8) (h3 : ∀ i, i < B.e.length → exOK B.c.length B.e i = true) : bufOK B = true := bufOK_iff.2 ⟨h1, h2, h3⟩
def opnB (B : Bf) (id : Int) : Bool := inR id 0 ((B.e.length : Int) - 1) && (B.e.getD id.toNat ex0).o
theorem opnB_iff {B : Bf} {id : Int} : opnB B id = true ↔ ∃ k : Nat, id = k ∧ k < B.e.length ∧ (B.e.getD k ex0).o = true := by
  unfold opnB inR
  simp only [Bool.and_eq_true, decide_eq_true_eq]
  constructor
  · rintro ⟨⟨h1, h2⟩, h3⟩
    exact ⟨id.toNat, by omega, by omega, h3⟩
  · rintro ⟨k, rfl, h1, h2⟩
    exact ⟨⟨by omega, by omega⟩, by simpa using h2⟩
def gOpn (B : Bf) (id : Int) : Option Bool := gd (bfB B) (bufOK B && opnB B id)
theorem gOpn_eq {B : Bf} (h : bfB B) (id : Int) : gOpn B id = some (bufOK B && opnB B id) := gd_eq h
def gOpnS (B : Bf) (id : Int) : Option Bool := gd (bfB B) (opnB B id)
theorem gOpnS_eq {B : Bf} (h : bfB B) (id : Int) : gOpnS B id = some (opnB B id) := gd_eq h
def gExOK (B : Bf) (i : Int) : Option Bool := gd (bfB B ∧ 0 ≤ i ∧ i < B.e.length) (exOK B.c.length B.e i.toNat)
theorem gExOK_eq {B : Bf} {i : Nat} (h : bfB B) (hi : i < B.e.length) : gExOK B (i : Int) = some (exOK B.c.length B.e i) := gd_eq ⟨h, by omega, by omega⟩
end Go.Proofs.YtkmnepmnjpdpkaaGreatDoor
namespace Go.Proofs.YtkmnepmnjpdpkaaGreatDoor
open Go Go.Ev Go.RowKit Go.Ev.Enc Go.Pl

set_option maxHeartbeats 4000000 in
set_option maxRecDepth 100000 in
theorem spec_isBuffer {Sg : FuncId → Option (List AV → Option AV)} (hS : Sound Tryz.prog Sg) (hm : Sg 107 = some (F1 gMem)) (hv : Sg 68 = some (F1 gValidV)) (hf : Sg 69 = some (F2 gFitI)) : ∀ a r, F1 gBuf a = some r → CSpec Tryz.prog 61 a r := by
  refine F1_spec ?_
  intro B r hr0
  obtain ⟨h, rfl⟩ := gd_some hr0
  refine CSpec.intro Tryz.func61 rfl (own _) (vc3_sound Tryz.pf hS hS _ _ _ ?_)
  obtain ⟨h1, h2, h3⟩ := h
  have q1 := gMem_eq h1
  cases e1 : memOK B.c with
  | false =>
    rw [e1] at q1
    rw [bufOK_m e1]
    repeat' (first | with_reducible first | refine kI (by kernel_rfl) ?_ | refine kN (by kernel_rfl) ?_ | simp -implicitDefEqProofs (disch := omega) only [go_sem, Nat.reduceAdd, Nat.reduceSub, reduceCtorEq, Nat.reduceLT, Nat.reduceLeDiff, Nat.reduceEqDiff, ↓reduceIte, List.take_of_length_le, if_pos, if_neg, getD_exs, cnE, cnV, Tryz.ntmps61, Tryz.results61,  hm, q1])
    try rfl
  | true =>
    rw [e1] at q1
    by_cases e2 : B.e.length ≤ 8
    · have e2' : ¬ (8 : Int) < (B.e.length : Int) := by omega
      repeat' (first | with_reducible first | refine kI (by kernel_rfl) ?_ | refine kN (by kernel_rfl) ?_ | simp -implicitDefEqProofs (disch := omega) only [go_sem, Nat.reduceAdd, Nat.reduceSub, reduceCtorEq, Nat.reduceLT, Nat.reduceLeDiff, Nat.reduceEqDiff, ↓reduceIte, List.take_of_length_le, if_pos, if_neg, getD_exs, cnE, cnV, Tryz.ntmps61, Tryz.results61,  hm, q1, e2'])
      refine LoopQ.mixG 1 (fun t0 L0 nn ss => ∃ (i : Nat) (_ : Unit), (∃ x : Nat → AV, ss = ⟨mixL 0 (.k :: .k :: .s :: .s :: .s :: .k :: .k :: .k :: .k :: .k :: .k :: .k :: .k :: .k :: .k :: .k :: .k :: .k :: .v (i64 (i : Nat)) :: .s :: .s :: .s :: .s :: .s :: .s :: .s :: .s :: .s :: .s :: .s :: .s :: .s :: .s :: .s :: .s :: .s :: .s :: .s :: .s :: .s :: .s :: .s :: .s :: .s :: .s :: .s :: .s :: .s :: .s :: .s :: .s :: .s :: .s :: .s :: .s :: .s :: .s :: .s :: .s :: .s :: .s :: .s :: .s :: .s :: .s :: []) t0 x, L0⟩) ∧ (i ≤ B.e.length) ∧ (∀ j, j < i → exOK B.c.length B.e j = true) ∧ nn = B.e.length - i) (by simp) ?_ ?_
      · exact ⟨_, ⟨0, (), mixI rfl, Nat.zero_le _, fun j hj => absurd hj (Nat.not_lt_zero _), rfl⟩⟩
      · rintro I0 hI0 nn ss ⟨i, _, ⟨y, rfl⟩, g1, g2, rfl⟩
        by_cases hi : i < B.e.length
        · have hii : (i : Int) < (B.e.length : Int) := by omega
          have q2 := gValidV_eq (h3 i hi)
          have hx := @exOK_iff B.c.length B.e i
          have hge := getD_exs (t := 0) hi
          obtain ⟨x, hxe⟩ : ∃ x, B.e.getD i ex0 = x := ⟨_, rfl⟩
          rw [hxe] at q2 hx hge
          by_cases c1 : exOK B.c.length B.e i = true
          · obtain ⟨⟨p1, p2⟩, v1, o1⟩ := hx.1 c1
            rw [v1] at q2
            have p1' : ¬ x.p < -1 := by omega
            have p2' : ¬ (i : Int) ≤ x.p := by omega
            cases ho : x.o with
            | false =>
              repeat' (first | with_reducible first | refine kI (by kernel_rfl) ?_ | refine kN (by kernel_rfl) ?_ | simp -implicitDefEqProofs (disch := omega) only [go_sem, Nat.reduceAdd, Nat.reduceSub, reduceCtorEq, Nat.reduceLT, Nat.reduceLeDiff, Nat.reduceEqDiff, ↓reduceIte, List.take_of_length_le, if_pos, if_neg, getD_exs, cnE, cnV, Tryz.ntmps61, Tryz.results61,  hii, hge, hv, q2, p1', p2', ho])
              exact ⟨B.e.length - (i + 1), by omega, hI0 _ _ ⟨i + 1, (), mixI rfl, hi, fun j hj => if e : j = i then by rw [e]; exact c1 else g2 j (by omega), rfl⟩⟩
            | true =>
              obtain ⟨f1, f2⟩ := o1 ho
              have q3 := gFitI_eq (vOK v1) (B.c.length : Int)
              rw [f1] at q3
              by_cases p0 : x.p < 0
              · have p0' : ¬ 0 ≤ x.p := by omega
                repeat' (first | with_reducible first | refine kI (by kernel_rfl) ?_ | refine kN (by kernel_rfl) ?_ | simp -implicitDefEqProofs (disch := omega) only [go_sem, Nat.reduceAdd, Nat.reduceSub, reduceCtorEq, Nat.reduceLT, Nat.reduceLeDiff, Nat.reduceEqDiff, ↓reduceIte, List.take_of_length_le, if_pos, if_neg, getD_exs, cnE, cnV, Tryz.ntmps61, Tryz.results61,  hii, hge, hv, q2, p1', p2', ho, hf, q3, p0'])
                exact ⟨B.e.length - (i + 1), by omega, hI0 _ _ ⟨i + 1, (), mixI rfl, hi, fun j hj => if e : j = i then by rw [e]; exact c1 else g2 j (by omega), rfl⟩⟩
              · have f3 := f2.resolve_left p0
                obtain ⟨k, hk⟩ : ∃ k : Nat, x.p = k := ⟨x.p.toNat, by omega⟩
                rw [hk, Int.toNat_natCast] at f3
                have p0' : (0 : Int) ≤ (k : Int) := by omega
                have hkl : k < B.e.length := by omega
                rw [hk] at p1' p2'
                repeat' (first | with_reducible first | refine kI (by kernel_rfl) ?_ | refine kN (by kernel_rfl) ?_ | simp -implicitDefEqProofs (disch := omega) only [go_sem, Nat.reduceAdd, Nat.reduceSub, reduceCtorEq, Nat.reduceLT, Nat.reduceLeDiff, Nat.reduceEqDiff, ↓reduceIte, List.take_of_length_le, if_pos, if_neg, getD_exs, cnE, cnV, Tryz.ntmps61, Tryz.results61,  hii, hge, hv, q2, hk, p1', p2', ho, hf, q3, p0', getD_exs hkl, f3])
                exact ⟨B.e.length - (i + 1), by omega, hI0 _ _ ⟨i + 1, (), mixI rfl, hi, fun j hj => if e : j = i then by rw [e]; exact c1 else g2 j (by omega), rfl⟩⟩
          · rw [bufOK_no hi (by simpa using c1)]
            rw [hx] at c1
            cases v1 : viewOK x.v with
            | false =>
              rw [v1] at q2
              repeat' (first | with_reducible first | refine kI (by kernel_rfl) ?_ | refine kN (by kernel_rfl) ?_ | simp -implicitDefEqProofs (disch := omega) only [go_sem, Nat.reduceAdd, Nat.reduceSub, reduceCtorEq, Nat.reduceLT, Nat.reduceLeDiff, Nat.reduceEqDiff, ↓reduceIte, List.take_of_length_le, if_pos, if_neg, getD_exs, cnE, cnV, Tryz.ntmps61, Tryz.results61,  hii, hge, hv, q2])
              try rfl
            | true =>
              rw [v1] at q2
              by_cases p1 : x.p < -1
              · repeat' (first | with_reducible first | refine kI (by kernel_rfl) ?_ | refine kN (by kernel_rfl) ?_ | simp -implicitDefEqProofs (disch := omega) only [go_sem, Nat.reduceAdd, Nat.reduceSub, reduceCtorEq, Nat.reduceLT, Nat.reduceLeDiff, Nat.reduceEqDiff, ↓reduceIte, List.take_of_length_le, if_pos, if_neg, getD_exs, cnE, cnV, Tryz.ntmps61, Tryz.results61,  hii, hge, hv, q2, p1])
                try rfl
              · by_cases p2 : (i : Int) ≤ x.p
                · repeat' (first | with_reducible first | refine kI (by kernel_rfl) ?_ | refine kN (by kernel_rfl) ?_ | simp -implicitDefEqProofs (disch := omega) only [go_sem, Nat.reduceAdd, Nat.reduceSub, reduceCtorEq, Nat.reduceLT, Nat.reduceLeDiff, Nat.reduceEqDiff, ↓reduceIte, List.take_of_length_le, if_pos, if_neg, getD_exs, cnE, cnV, Tryz.ntmps61, Tryz.results61,  hii, hge, hv, q2, p1, p2])
                  try rfl
                · cases ho : x.o with
                  | false => exact absurd ⟨⟨by omega, by omega⟩, v1, fun h => by rw [ho] at h; cases h⟩ c1
                  | true =>
                    have q3 := gFitI_eq (vOK v1) (B.c.length : Int)
                    cases f1 : fitB x.v B.c.length with
                    | false =>
                      rw [f1] at q3
                      repeat' (first | with_reducible first | refine kI (by kernel_rfl) ?_ | refine kN (by kernel_rfl) ?_ | simp -implicitDefEqProofs (disch := omega) only [go_sem, Nat.reduceAdd, Nat.reduceSub, reduceCtorEq, Nat.reduceLT, Nat.reduceLeDiff, Nat.reduceEqDiff, ↓reduceIte, List.take_of_length_le, if_pos, if_neg, getD_exs, cnE, cnV, Tryz.ntmps61, Tryz.results61,  hii, hge, hv, q2, p1, p2, ho, hf, q3])
                      all_goals first | (try rfl; done) | skip
                    | true =>
                      rw [f1] at q3
                      by_cases p0 : x.p < 0
                      · exact absurd ⟨⟨by omega, by omega⟩, v1, fun _ => ⟨f1, .inl p0⟩⟩ c1
                      · obtain ⟨k, hk⟩ : ∃ k : Nat, x.p = k := ⟨x.p.toNat, by omega⟩
                        have p0' : (0 : Int) ≤ (k : Int) := by omega
                        have hkl : k < B.e.length := by omega
                        rw [hk] at p1 p2
                        cases f3 : (B.e.getD k ex0).o with
                        | true => exact absurd ⟨⟨by omega, by omega⟩, v1, fun _ => ⟨f1, .inr (by rw [hk, Int.toNat_natCast]; exact f3)⟩⟩ c1
                        | false =>
                          repeat' (first | with_reducible first | refine kI (by kernel_rfl) ?_ | refine kN (by kernel_rfl) ?_ | simp -implicitDefEqProofs (disch := omega) only [go_sem, Nat.reduceAdd, Nat.reduceSub, reduceCtorEq, Nat.reduceLT, Nat.reduceLeDiff, Nat.reduceEqDiff, ↓reduceIte, List.take_of_length_le, if_pos, if_neg, getD_exs, cnE, cnV, Tryz.ntmps61, Tryz.results61,  hii, hge, hv, q2, hk, p1, p2, ho, hf, q3, p0', getD_exs hkl, f3])
                          try rfl
        · obtain rfl : i = B.e.length := by omega
          rw [bufOK_y e1 e2 g2]
          repeat' (first | with_reducible first | refine kI (by kernel_rfl) ?_ | refine kN (by kernel_rfl) ?_ | simp -implicitDefEqProofs (disch := omega) only [go_sem, Nat.reduceAdd, Nat.reduceSub, reduceCtorEq, Nat.reduceLT, Nat.reduceLeDiff, Nat.reduceEqDiff, ↓reduceIte, List.take_of_length_le, if_pos, if_neg, getD_exs, cnE, cnV, Tryz.ntmps61, Tryz.results61])
          try rfl
    · have e2' : (8 : Int) < (B.e.length : Int) := by omega
      rw [bufOK_8 e2]
      repeat' (first | with_reducible first | refine kI (by kernel_rfl) ?_ | refine kN (by kernel_rfl) ?_ | simp -implicitDefEqProofs (disch := omega) only [go_sem, Nat.reduceAdd, Nat.reduceSub, reduceCtorEq, Nat.reduceLT, Nat.reduceLeDiff, Nat.reduceEqDiff, ↓reduceIte, List.take_of_length_le, if_pos, if_neg, getD_exs, cnE, cnV, Tryz.ntmps61, Tryz.results61,  hm, q1, e2'])
      try rfl
set_option maxHeartbeats 4000000 in
set_option maxRecDepth 100000 in
theorem spec_isOpenI {Sg : FuncId → Option (List AV → Option AV)} (hS : Sound Tryz.prog Sg) (hb : Sg 61 = some (F1 gBuf)) : ∀ a r, F2 gOpn a = some r → CSpec Tryz.prog 97 a r := by
  refine F2_spec ?_
  intro B id r hr0
  obtain ⟨h, rfl⟩ := gd_some hr0
  refine CSpec.intro Tryz.func97 rfl (own _) (vc3_sound Tryz.pf hS hS _ _ _ ?_)
  have q1 := gBuf_eq h
  unfold opnB inR
  cases e1 : bufOK B with
  | false =>
    rw [e1] at q1
    repeat' (first | with_reducible first | refine kI (by kernel_rfl) ?_ | refine kN (by kernel_rfl) ?_ | simp -implicitDefEqProofs (disch := omega) only [go_sem, Nat.reduceAdd, Nat.reduceSub, reduceCtorEq, Nat.reduceLT, Nat.reduceLeDiff, Nat.reduceEqDiff, ↓reduceIte, List.take_of_length_le, if_pos, if_neg, getD_exs, cnE, cnV, Tryz.ntmps97, Tryz.results97,  hb, q1])
    try rfl
  | true =>
    rw [e1] at q1
    by_cases h1 : 0 ≤ id
    · obtain ⟨k, rfl⟩ : ∃ k : Nat, id = k := ⟨id.toNat, by omega⟩
      by_cases h2 : k < B.e.length
      · have h2' : (k : Int) < (B.e.length : Int) := by omega
        have h3' : (k : Int) ≤ (B.e.length : Int) - 1 := by omega
        repeat' (first | with_reducible first | refine kI (by kernel_rfl) ?_ | refine kN (by kernel_rfl) ?_ | simp -implicitDefEqProofs (disch := omega) only [go_sem, Nat.reduceAdd, Nat.reduceSub, reduceCtorEq, Nat.reduceLT, Nat.reduceLeDiff, Nat.reduceEqDiff, ↓reduceIte, List.take_of_length_le, if_pos, if_neg, getD_exs, cnE, cnV, Tryz.ntmps97, Tryz.results97,  hb, q1, h1, h2', h3', getD_exs h2])
        try rfl
      · have h2' : ¬ (k : Int) < (B.e.length : Int) := by omega
        have h3' : ¬ (k : Int) ≤ (B.e.length : Int) - 1 := by omega
        repeat' (first | with_reducible first | refine kI (by kernel_rfl) ?_ | refine kN (by kernel_rfl) ?_ | simp -implicitDefEqProofs (disch := omega) only [go_sem, Nat.reduceAdd, Nat.reduceSub, reduceCtorEq, Nat.reduceLT, Nat.reduceLeDiff, Nat.reduceEqDiff, ↓reduceIte, List.take_of_length_le, if_pos, if_neg, getD_exs, cnE, cnV, Tryz.ntmps97, Tryz.results97,  hb, q1, h1, h2', h3'])
        try rfl
    · repeat' (first | with_reducible first | refine kI (by kernel_rfl) ?_ | refine kN (by kernel_rfl) ?_ | simp -implicitDefEqProofs (disch := omega) only [go_sem, Nat.reduceAdd, Nat.reduceSub, reduceCtorEq, Nat.reduceLT, Nat.reduceLeDiff, Nat.reduceEqDiff, ↓reduceIte, List.take_of_length_le, if_pos, if_neg, getD_exs, cnE, cnV, Tryz.ntmps97, Tryz.results97,  hb, q1, h1])
      try rfl
set_option maxHeartbeats 4000000 in
set_option maxRecDepth 100000 in
theorem spec_isOpenS {Sg : FuncId → Option (List AV → Option AV)} (hS : Sound Tryz.prog Sg) (hr : Sg 100 = some (F3 gInRange)) : ∀ a r, F2 gOpnS a = some r → CSpec Tryz.prog 142 a r := by
  refine F2_spec ?_
  intro B id r hr0
  obtain ⟨h, rfl⟩ := gd_some hr0
  refine CSpec.intro Tryz.func142 rfl (own _) (vc3_sound Tryz.pf hS hS _ _ _ ?_)
  obtain ⟨h1, h2, h3⟩ := h
  have hw : IntKind.i64.wrap ((B.e.length : Int) - 1) = (B.e.length : Int) - 1 := wrap_in (by omega)
  have q1 := gInRange_eq id 0 ((B.e.length : Int) - 1)
  unfold opnB
  cases e1 : inR id 0 ((B.e.length : Int) - 1) with
  | false =>
    rw [e1] at q1
    repeat' (first | with_reducible first | refine kI (by kernel_rfl) ?_ | refine kN (by kernel_rfl) ?_ | simp -implicitDefEqProofs (disch := omega) only [go_sem, Nat.reduceAdd, Nat.reduceSub, reduceCtorEq, Nat.reduceLT, Nat.reduceLeDiff, Nat.reduceEqDiff, ↓reduceIte, List.take_of_length_le, if_pos, if_neg, getD_exs, cnE, cnV, Tryz.ntmps142, Tryz.results142,  hw, hr, q1])
    try rfl
  | true =>
    rw [e1] at q1
    unfold inR at e1
    simp only [Bool.and_eq_true, decide_eq_true_eq] at e1
    obtain ⟨k, rfl⟩ : ∃ k : Nat, id = k := ⟨id.toNat, by omega⟩
    have hk : k < B.e.length := by omega
    repeat' (first | with_reducible first | refine kI (by kernel_rfl) ?_ | refine kN (by kernel_rfl) ?_ | simp -implicitDefEqProofs (disch := omega) only [go_sem, Nat.reduceAdd, Nat.reduceSub, reduceCtorEq, Nat.reduceLT, Nat.reduceLeDiff, Nat.reduceEqDiff, ↓reduceIte, List.take_of_length_le, if_pos, if_neg, getD_exs, cnE, cnV, Tryz.ntmps142, Tryz.results142,  hw, hr, q1, getD_exs hk])
    try rfl
end Go.Proofs.YtkmnepmnjpdpkaaGreatDoor
namespace Go.Proofs.YtkmnepmnjpdpkaaGreatDoor
open Go Go.Ev Go.RowKit Go.Ev.Enc Go.Pl

set_option maxHeartbeats 4000000 in
set_option maxRecDepth 100000 in
theorem spec_validExport {Sg : FuncId → Option (List AV → Option AV)} (hS : Sound Tryz.prog Sg) (hr : Sg 100 = some (F3 gInRange)) (hv : Sg 148 = some (F1 gValidV)) (hf : Sg 149 = some (F2 gFitS)) : ∀ a r, F2 gExOK a = some r → CSpec Tryz.prog 111 a r := by
  refine F2_spec ?_
  intro B id r hr0
  obtain ⟨⟨⟨h1, h2, h3⟩, h4, h5⟩, rfl⟩ := gd_some hr0
  obtain ⟨i, rfl⟩ : ∃ i : Nat, id = i := ⟨id.toNat, by omega⟩
  have hi : i < B.e.length := by omega
  rw [Int.toNat_natCast]
  refine CSpec.intro Tryz.func111 rfl (own _) (vc3_sound Tryz.pf hS hS _ _ _ ?_)
  have q2 := gValidV_eq (h3 i hi)
  have hw : IntKind.i64.wrap ((i : Int) - 1) = (i : Int) - 1 := wrap_in (by omega)
  have hge := getD_exs (t := 0) hi
  unfold exOK
  obtain ⟨x, hxe⟩ : ∃ x, B.e.getD i ex0 = x := ⟨_, rfl⟩
  rw [hxe] at q2 hge ⊢
  have q1 := gInRange_eq x.p (-1) ((i : Int) - 1)
  cases e1 : inR x.p (-1) ((i : Int) - 1) with
  | false =>
    rw [e1] at q1
    repeat' (first | with_reducible first | refine kI (by kernel_rfl) ?_ | refine kN (by kernel_rfl) ?_ | simp -implicitDefEqProofs (disch := omega) only [go_sem, Nat.reduceAdd, Nat.reduceSub, reduceCtorEq, Nat.reduceLT, Nat.reduceLeDiff, Nat.reduceEqDiff, ↓reduceIte, List.take_of_length_le, if_pos, if_neg, getD_exs, cnE, cnV, Tryz.ntmps111, Tryz.results111,  hge, hw, hr, q1])
    try rfl
  | true =>
    rw [e1] at q1
    unfold inR at e1
    simp only [Bool.and_eq_true, decide_eq_true_eq] at e1
    cases v1 : viewOK x.v with
    | false =>
      rw [v1] at q2
      repeat' (first | with_reducible first | refine kI (by kernel_rfl) ?_ | refine kN (by kernel_rfl) ?_ | simp -implicitDefEqProofs (disch := omega) only [go_sem, Nat.reduceAdd, Nat.reduceSub, reduceCtorEq, Nat.reduceLT, Nat.reduceLeDiff, Nat.reduceEqDiff, ↓reduceIte, List.take_of_length_le, if_pos, if_neg, getD_exs, cnE, cnV, Tryz.ntmps111, Tryz.results111,  hge, hw, hr, q1, hv, q2])
      try rfl
    | true =>
      rw [v1] at q2
      have q3 := gFitS_eq (v := x.v) (n := (B.c.length : Int)) ⟨vOK v1, by omega, by omega⟩
      rw [fitS_eq v1] at q3
      cases ho : x.o with
      | false =>
        repeat' (first | with_reducible first | refine kI (by kernel_rfl) ?_ | refine kN (by kernel_rfl) ?_ | (first | refine kB1 ?_ ?_ | refine kB2 ?_ ?_) <;> intro hp | (first | refine kD1 ?_ ?_ | refine kD2 ?_ ?_ | refine kS1 ?_ ?_ | refine kS2 ?_ ?_) <;> intro hp <;> try simp only [hp] | simp -implicitDefEqProofs (disch := omega) only [go_sem, Nat.reduceAdd, Nat.reduceSub, reduceCtorEq, Nat.reduceLT, Nat.reduceLeDiff, Nat.reduceEqDiff, ↓reduceIte, List.take_of_length_le, if_pos, if_neg, getD_exs, cnE, cnV, Tryz.ntmps111, Tryz.results111,  hge, hw, hr, q1, hv, q2, ho])
        try rfl
      | true =>
        by_cases p0 : x.p < 0
        · repeat' (first | with_reducible first | refine kI (by kernel_rfl) ?_ | refine kN (by kernel_rfl) ?_ | (first | refine kB1 ?_ ?_ | refine kB2 ?_ ?_) <;> intro hp | (first | refine kD1 ?_ ?_ | refine kD2 ?_ ?_ | refine kS1 ?_ ?_ | refine kS2 ?_ ?_) <;> intro hp <;> try simp only [hp] | simp -implicitDefEqProofs (disch := omega) only [go_sem, Nat.reduceAdd, Nat.reduceSub, reduceCtorEq, Nat.reduceLT, Nat.reduceLeDiff, Nat.reduceEqDiff, ↓reduceIte, List.take_of_length_le, if_pos, if_neg, getD_exs, cnE, cnV, Tryz.ntmps111, Tryz.results111,  hge, hw, hr, q1, hv, q2, ho, hf, q3, p0])
          all_goals first | (try rfl; done) | simp_all
        · obtain ⟨k, hk⟩ : ∃ k : Nat, x.p = k := ⟨x.p.toNat, by omega⟩
          have p0' : ¬ (k : Int) < 0 := by omega
          have hkl : k < B.e.length := by omega
          rw [hk] at q1
          repeat' (first | with_reducible first | refine kI (by kernel_rfl) ?_ | refine kN (by kernel_rfl) ?_ | (first | refine kB1 ?_ ?_ | refine kB2 ?_ ?_) <;> intro hp | (first | refine kD1 ?_ ?_ | refine kD2 ?_ ?_ | refine kS1 ?_ ?_ | refine kS2 ?_ ?_) <;> intro hp <;> try simp only [hp] | simp -implicitDefEqProofs (disch := omega) only [go_sem, Nat.reduceAdd, Nat.reduceSub, reduceCtorEq, Nat.reduceLT, Nat.reduceLeDiff, Nat.reduceEqDiff, ↓reduceIte, List.take_of_length_le, if_pos, if_neg, getD_exs, cnE, cnV, Tryz.ntmps111, Tryz.results111,  hge, hw, hk, hr, q1, hv, q2, ho, hf, q3, p0', getD_exs hkl])
          all_goals first | (try rfl; done) | simp_all
set_option maxHeartbeats 4000000 in
set_option maxRecDepth 100000 in
theorem spec_validBuffer {Sg : FuncId → Option (List AV → Option AV)} (hS : Sound Tryz.prog Sg) (hx : Sg 111 = some (F2 gExOK)) (hm : Sg 112 = some (F1 gMem)) : ∀ a r, F1 gBuf a = some r → CSpec Tryz.prog 66 a r := by
  refine F1_spec ?_
  intro B r hr0
  obtain ⟨h, rfl⟩ := gd_some hr0
  have hb := h
  obtain ⟨h1, h2, h3⟩ := h
  refine CSpec.intro Tryz.func66 rfl (own _) (vc3_sound Tryz.pf hS hS _ _ _ ?_)
  have q1 := gMem_eq h1
  repeat' (first | with_reducible first | refine kI (by kernel_rfl) ?_ | refine kN (by kernel_rfl) ?_ | simp -implicitDefEqProofs (disch := omega) only [go_sem, Nat.reduceAdd, Nat.reduceSub, reduceCtorEq, Nat.reduceLT, Nat.reduceLeDiff, Nat.reduceEqDiff, ↓reduceIte, List.take_of_length_le, if_pos, if_neg, getD_exs, cnE, cnV, Tryz.ntmps66, Tryz.results66])
  refine LoopQ.mix (fun t0 L0 nn ss => ∃ (i : Nat) (_ : Unit), (∃ x : Nat → AV, ss = ⟨mixL 0 (.k :: .k :: .s :: .v (i64 (i : Nat)) :: .s :: .s :: .s :: .s :: .s :: .s :: .s :: .s :: .s :: .s :: .s :: .k :: .k :: .k :: .k :: .k :: .k :: .k :: .k :: .k :: []) t0 x, L0⟩) ∧ (i ≤ B.e.length) ∧ (∀ j, j < i → exOK B.c.length B.e j = true) ∧ nn = B.e.length - i) ?_ ?_
  · exact ⟨_, ⟨0, (), mixI rfl, Nat.zero_le _, fun j hj => absurd hj (Nat.not_lt_zero _), rfl⟩⟩
  · rintro I0 hI0 nn ss ⟨i, _, ⟨y, rfl⟩, g1, g2, rfl⟩
    by_cases hi : i < B.e.length
    · have hii : (i : Int) < (B.e.length : Int) := by omega
      have q2 := gExOK_eq hb hi
      cases c1 : exOK B.c.length B.e i with
      | true =>
        rw [c1] at q2
        repeat' (first | with_reducible first | refine kI (by kernel_rfl) ?_ | refine kN (by kernel_rfl) ?_ | simp -implicitDefEqProofs (disch := omega) only [go_sem, Nat.reduceAdd, Nat.reduceSub, reduceCtorEq, Nat.reduceLT, Nat.reduceLeDiff, Nat.reduceEqDiff, ↓reduceIte, List.take_of_length_le, if_pos, if_neg, getD_exs, cnE, cnV, Tryz.ntmps66, Tryz.results66,  hii, hx, q2])
        exact ⟨B.e.length - (i + 1), by omega, hI0 _ _ ⟨i + 1, (), mixI rfl, hi, fun j hj => if e : j = i then by rw [e]; exact c1 else g2 j (by omega), rfl⟩⟩
      | false =>
        rw [c1] at q2
        rw [bufOK_no hi c1]
        repeat' (first | with_reducible first | refine kI (by kernel_rfl) ?_ | refine kN (by kernel_rfl) ?_ | simp -implicitDefEqProofs (disch := omega) only [go_sem, Nat.reduceAdd, Nat.reduceSub, reduceCtorEq, Nat.reduceLT, Nat.reduceLeDiff, Nat.reduceEqDiff, ↓reduceIte, List.take_of_length_le, if_pos, if_neg, getD_exs, cnE, cnV, Tryz.ntmps66, Tryz.results66,  hii, hx, q2])
        try rfl
    · obtain rfl : i = B.e.length := by omega
      cases e1 : memOK B.c with
      | false =>
        rw [e1] at q1
        rw [bufOK_m e1]
        repeat' (first | with_reducible first | refine kI (by kernel_rfl) ?_ | refine kN (by kernel_rfl) ?_ | simp -implicitDefEqProofs (disch := omega) only [go_sem, Nat.reduceAdd, Nat.reduceSub, reduceCtorEq, Nat.reduceLT, Nat.reduceLeDiff, Nat.reduceEqDiff, ↓reduceIte, List.take_of_length_le, if_pos, if_neg, getD_exs, cnE, cnV, Tryz.ntmps66, Tryz.results66,  hm, q1])
        try rfl
      | true =>
        rw [e1] at q1
        by_cases e2 : B.e.length ≤ 8
        · have e2' : (B.e.length : Int) ≤ 8 := by omega
          rw [bufOK_y e1 e2 g2]
          repeat' (first | with_reducible first | refine kI (by kernel_rfl) ?_ | refine kN (by kernel_rfl) ?_ | simp -implicitDefEqProofs (disch := omega) only [go_sem, Nat.reduceAdd, Nat.reduceSub, reduceCtorEq, Nat.reduceLT, Nat.reduceLeDiff, Nat.reduceEqDiff, ↓reduceIte, List.take_of_length_le, if_pos, if_neg, getD_exs, cnE, cnV, Tryz.ntmps66, Tryz.results66,  hm, q1, e2'])
          try rfl
        · have e2' : ¬ (B.e.length : Int) ≤ 8 := by omega
          rw [bufOK_8 e2]
          repeat' (first | with_reducible first | refine kI (by kernel_rfl) ?_ | refine kN (by kernel_rfl) ?_ | simp -implicitDefEqProofs (disch := omega) only [go_sem, Nat.reduceAdd, Nat.reduceSub, reduceCtorEq, Nat.reduceLT, Nat.reduceLeDiff, Nat.reduceEqDiff, ↓reduceIte, List.take_of_length_le, if_pos, if_neg, getD_exs, cnE, cnV, Tryz.ntmps66, Tryz.results66,  hm, q1, e2'])
          try rfl
def kidF (B : Bf) (id : Int) : List Int := ((List.range B.e.length).filter fun i => (B.e.getD i ex0).o && ((B.e.getD i ex0).p == id)).map fun i : Nat => (i : Int)
def opF (B : Bf) : List Int := ((List.range B.e.length).filter fun i => (B.e.getD i ex0).o).map fun i : Nat => (i : Int)
theorem filt_s (p : Nat → Bool) (n : Nat) : ((List.range (n + 1)).filter p).map (fun i : Nat => (i : Int)) = ((List.range n).filter p).map (fun i : Nat => (i : Int)) ++ (if p n = true then [(n : Int)] else []) := by
  rw [List.range_succ, List.filter_append, List.map_append]
  cases h : p n <;> simp [h]
theorem filt_t {p : Nat → Bool} {n : Nat} (h : p n = true) : ((List.range n).filter p).map (fun i : Nat => (i : Int)) ++ [(n : Int)] = ((List.range (n + 1)).filter p).map (fun i : Nat => (i : Int)) := by rw [filt_s, if_pos h]
theorem filt_f {p : Nat → Bool} {n : Nat} (h : p n = false) : ((List.range n).filter p).map (fun i : Nat => (i : Int)) = ((List.range (n + 1)).filter p).map (fun i : Nat => (i : Int)) := by rw [filt_s, if_neg (by simp [h]), List.append_nil]
def gKidS (B : Bf) (id : Int) : Option (List Int) := gd (bfB B) (kidF B id)
theorem gKidS_eq {B : Bf} (h : bfB B) (id : Int) : gKidS B id = some (kidF B id) := gd_eq h
set_option maxHeartbeats 4000000 in
set_option maxRecDepth 100000 in
theorem spec_kids {Sg : FuncId → Option (List AV → Option AV)} (hS : Sound Tryz.prog Sg) : ∀ a r, F2 gKidS a = some r → CSpec Tryz.prog 171 a r := by
  refine F2_spec ?_
  intro B id r hr0
  obtain ⟨⟨h1, h2, h3⟩, rfl⟩ := gd_some hr0
  refine CSpec.intro Tryz.func171 rfl (own _) (vc3_sound Tryz.pf hS hS _ _ _ ?_)
  have hK : kidF B id = ((List.range B.e.length).filter fun i => (B.e.getD i ex0).o && ((B.e.getD i ex0).p == id)).map fun i : Nat => (i : Int) := rfl
  repeat' (first | with_reducible first | refine kI (by kernel_rfl) ?_ | simp -implicitDefEqProofs (disch := omega) only [go_sem, Nat.reduceAdd, Nat.reduceSub, reduceCtorEq, Nat.reduceLT, Nat.reduceLeDiff, Nat.reduceEqDiff, ↓reduceIte, List.take_of_length_le, if_pos, if_neg, getD_exs, cnE, cnV, Tryz.ntmps171, Tryz.results171])
  refine LoopQ.mix (fun t0 L0 nn ss => ∃ (i : Nat) (q : List Int) (_ : Unit), (∃ x : Nat → AV, ss = ⟨mixL 0 (.k :: .k :: .k :: .k :: .k :: .v (.sl 1 q.length 0 q.length q.length) :: .v (i64 (i : Nat)) :: .k :: .s :: .s :: .s :: .s :: .s :: .s :: .s :: .s :: .s :: .s :: .s :: .s :: .s :: .s :: .s :: .s :: .s :: .s :: .s :: .s :: .s :: .s :: .s :: .s :: .s :: .s :: .s :: .k :: []) t0 x, [⟨2, [bfA 0 B]⟩, stB q]⟩) ∧ (i ≤ B.e.length) ∧ (q.length ≤ i) ∧ (q = ((List.range i).filter fun i => (B.e.getD i ex0).o && ((B.e.getD i ex0).p == id)).map fun i : Nat => (i : Int)) ∧ nn = B.e.length - i) ?_ ?_
  · exact ⟨_, ⟨0, [], (), mixJ rfl (rfl), Nat.zero_le _, Nat.zero_le _, rfl, rfl⟩⟩
  · rintro I0 hI0 nn ss ⟨i, q, _, ⟨y, rfl⟩, g1, g2, g3, rfl⟩
    by_cases hi : i < B.e.length
    · have hii : (i : Int) < (B.e.length : Int) := by omega
      have hge := getD_exs (t := 0) hi
      cases ho : (B.e.getD i ex0).o with
      | false =>
        have hf := filt_f (p := fun i => (B.e.getD i ex0).o && ((B.e.getD i ex0).p == id)) (n := i) (by rw [ho]; rfl)
        repeat' (first | with_reducible first | refine kI (by kernel_rfl) ?_ | refine kN (by kernel_rfl) ?_ | simp -implicitDefEqProofs (disch := omega) only [go_sem, Nat.reduceAdd, Nat.reduceSub, reduceCtorEq, Nat.reduceLT, Nat.reduceLeDiff, Nat.reduceEqDiff, ↓reduceIte, List.take_of_length_le, if_pos, if_neg, getD_exs, cnE, cnV, Tryz.ntmps171, Tryz.results171,  hii, hge, ho])
        exact ⟨B.e.length - (i + 1), by omega, hI0 _ _ ⟨i + 1, q, (), mixI rfl, hi, by omega, g3.trans hf, rfl⟩⟩
      | true =>
        cases hp : ((B.e.getD i ex0).p == id) with
        | false =>
          have hf := filt_f (p := fun i => (B.e.getD i ex0).o && ((B.e.getD i ex0).p == id)) (n := i) (by rw [ho, hp]; rfl)
          repeat' (first | with_reducible first | refine kI (by kernel_rfl) ?_ | refine kN (by kernel_rfl) ?_ | simp -implicitDefEqProofs (disch := omega) only [go_sem, Nat.reduceAdd, Nat.reduceSub, reduceCtorEq, Nat.reduceLT, Nat.reduceLeDiff, Nat.reduceEqDiff, ↓reduceIte, List.take_of_length_le, if_pos, if_neg, getD_exs, cnE, cnV, Tryz.ntmps171, Tryz.results171,  hii, hge, ho, hp])
          exact ⟨B.e.length - (i + 1), by omega, hI0 _ _ ⟨i + 1, q, (), mixI rfl, hi, by omega, g3.trans hf, rfl⟩⟩
        | true =>
          have hf := filt_t (p := fun i => (B.e.getD i ex0).o && ((B.e.getD i ex0).p == id)) (n := i) (by rw [ho, hp]; rfl)
          rw [← g3] at hf
          repeat' (first | with_reducible first | refine kI (by kernel_rfl) ?_ | refine kN (by kernel_rfl) ?_ | simp -implicitDefEqProofs (disch := omega) only [go_sem, Nat.reduceAdd, Nat.reduceSub, reduceCtorEq, Nat.reduceLT, Nat.reduceLeDiff, Nat.reduceEqDiff, ↓reduceIte, List.take_of_length_le, if_pos, if_neg, getD_exs, cnE, cnV, Tryz.ntmps171, Tryz.results171,  hii, hge, ho, hp])
          exact ⟨B.e.length - (i + 1), by omega, hI0 _ _ ⟨i + 1, q ++ [(i : Int)], (), mixI (by rw [List.length_append]; rfl), hi, by rw [List.length_append]; simp; omega, hf, rfl⟩⟩
    · obtain rfl : i = B.e.length := by omega
      rw [← hK] at g3
      rw [← g3]
      repeat' (first | with_reducible first | refine kI (by kernel_rfl) ?_ | refine kN (by kernel_rfl) ?_ | simp -implicitDefEqProofs (disch := omega) only [go_sem, Nat.reduceAdd, Nat.reduceSub, reduceCtorEq, Nat.reduceLT, Nat.reduceLeDiff, Nat.reduceEqDiff, ↓reduceIte, List.take_of_length_le, if_pos, if_neg, getD_exs, cnE, cnV, Tryz.ntmps171, Tryz.results171])
end Go.Proofs.YtkmnepmnjpdpkaaGreatDoor
namespace Go.Proofs.YtkmnepmnjpdpkaaGreatDoor
open Go Go.Ev Go.RowKit Go.Ev.Enc Go.Pl

def gOpF (B : Bf) : Option (List Int) := gd (bfB B) (if bufOK B = true then opF B else [])
theorem gOpF_eq {B : Bf} (h : bfB B) : gOpF B = some (if bufOK B = true then opF B else []) := gd_eq h
set_option maxHeartbeats 4000000 in
set_option maxRecDepth 100000 in
theorem spec_OpenOfS {Sg : FuncId → Option (List AV → Option AV)} (hS : Sound Tryz.prog Sg) (hb : Sg 66 = some (F1 gBuf)) : ∀ a r, F1 gOpF a = some r → CSpec Tryz.prog 122 a r := by
  refine F1_spec ?_
  intro B r hr0
  obtain ⟨h, rfl⟩ := gd_some hr0
  refine CSpec.intro Tryz.func122 rfl (own _) (vc3_sound Tryz.pf hS hS _ _ _ ?_)
  have q1 := gBuf_eq h
  cases e1 : bufOK B with
  | false =>
    rw [e1] at q1
    rw [if_neg (by simp)]
    repeat' (first | with_reducible first | refine kI (by kernel_rfl) ?_ | refine kN (by kernel_rfl) ?_ | simp -implicitDefEqProofs (disch := omega) only [go_sem, Nat.reduceAdd, Nat.reduceSub, reduceCtorEq, Nat.reduceLT, Nat.reduceLeDiff, Nat.reduceEqDiff, ↓reduceIte, List.take_of_length_le, if_pos, if_neg, getD_exs, cnE, cnV, Tryz.ntmps122, Tryz.results122,  hb, q1])
    try rfl
  | true =>
    rw [e1] at q1
    rw [if_pos rfl]
    obtain ⟨h1, h2, h3⟩ := h
    have hK : opF B = ((List.range B.e.length).filter fun i => (B.e.getD i ex0).o).map fun i : Nat => (i : Int) := rfl
    repeat' (first | with_reducible first | refine kI (by kernel_rfl) ?_ | simp -implicitDefEqProofs (disch := omega) only [go_sem, Nat.reduceAdd, Nat.reduceSub, reduceCtorEq, Nat.reduceLT, Nat.reduceLeDiff, Nat.reduceEqDiff, ↓reduceIte, List.take_of_length_le, if_pos, if_neg, getD_exs, cnE, cnV, Tryz.ntmps122, Tryz.results122,  hb, q1])
    refine LoopQ.mixG 2 (fun t0 L0 nn ss => ∃ (i : Nat) (q : List Int) (_ : Unit), (∃ x : Nat → AV, ss = ⟨mixL 0 (.k :: .k :: .k :: .v (.sl 1 q.length 0 q.length q.length) :: .v (i64 (i : Nat)) :: .k :: .k :: .k :: .k :: .s :: .s :: .s :: .s :: .s :: .s :: .s :: .s :: .s :: .s :: .s :: .s :: .s :: .s :: .s :: .s :: .s :: .k :: []) t0 x, [⟨2, [bfA 0 B]⟩, stB q]⟩) ∧ (i ≤ B.e.length) ∧ (q.length ≤ i) ∧ (q = ((List.range i).filter fun i => (B.e.getD i ex0).o).map fun i : Nat => (i : Int)) ∧ nn = B.e.length - i) (by simp) ?_ ?_
    · exact ⟨_, ⟨0, [], (), mixJ rfl (rfl), Nat.zero_le _, Nat.zero_le _, rfl, rfl⟩⟩
    · rintro I0 hI0 nn ss ⟨i, q, _, ⟨y, rfl⟩, g1, g2, g3, rfl⟩
      by_cases hi : i < B.e.length
      · have hii : (i : Int) < (B.e.length : Int) := by omega
        have hge := getD_exs (t := 0) hi
        cases ho : (B.e.getD i ex0).o with
        | false =>
          have hf := filt_f (p := fun i => (B.e.getD i ex0).o) (n := i) ho
          repeat' (first | with_reducible first | refine kI (by kernel_rfl) ?_ | refine kN (by kernel_rfl) ?_ | simp -implicitDefEqProofs (disch := omega) only [go_sem, Nat.reduceAdd, Nat.reduceSub, reduceCtorEq, Nat.reduceLT, Nat.reduceLeDiff, Nat.reduceEqDiff, ↓reduceIte, List.take_of_length_le, if_pos, if_neg, getD_exs, cnE, cnV, Tryz.ntmps122, Tryz.results122,  hii, hge, ho])
          exact ⟨B.e.length - (i + 1), by omega, hI0 _ _ ⟨i + 1, q, (), mixI rfl, hi, by omega, g3.trans hf, rfl⟩⟩
        | true =>
          have hf := filt_t (p := fun i => (B.e.getD i ex0).o) (n := i) ho
          rw [← g3] at hf
          repeat' (first | with_reducible first | refine kI (by kernel_rfl) ?_ | refine kN (by kernel_rfl) ?_ | simp -implicitDefEqProofs (disch := omega) only [go_sem, Nat.reduceAdd, Nat.reduceSub, reduceCtorEq, Nat.reduceLT, Nat.reduceLeDiff, Nat.reduceEqDiff, ↓reduceIte, List.take_of_length_le, if_pos, if_neg, getD_exs, cnE, cnV, Tryz.ntmps122, Tryz.results122,  hii, hge, ho])
          exact ⟨B.e.length - (i + 1), by omega, hI0 _ _ ⟨i + 1, q ++ [(i : Int)], (), mixI (by rw [List.length_append]; rfl), hi, by rw [List.length_append]; simp; omega, hf, rfl⟩⟩
      · obtain rfl : i = B.e.length := by omega
        rw [← hK] at g3
        rw [← g3]
        repeat' (first | with_reducible first | refine kI (by kernel_rfl) ?_ | refine kN (by kernel_rfl) ?_ | simp -implicitDefEqProofs (disch := omega) only [go_sem, Nat.reduceAdd, Nat.reduceSub, reduceCtorEq, Nat.reduceLT, Nat.reduceLeDiff, Nat.reduceEqDiff, ↓reduceIte, List.take_of_length_le, if_pos, if_neg, getD_exs, cnE, cnV, Tryz.ntmps122, Tryz.results122])
set_option maxHeartbeats 4000000 in
set_option maxRecDepth 100000 in
theorem spec_OpenOfI {Sg : FuncId → Option (List AV → Option AV)} (hS : Sound Tryz.prog Sg) (hb : Sg 61 = some (F1 gBuf)) : ∀ a r, F1 gOpF a = some r → CSpec Tryz.prog 26 a r := by
  refine F1_spec ?_
  intro B r hr0
  obtain ⟨h, rfl⟩ := gd_some hr0
  refine CSpec.intro Tryz.func26 rfl (own _) (vc3_sound Tryz.pf hS hS _ _ _ ?_)
  have q1 := gBuf_eq h
  cases e1 : bufOK B with
  | false =>
    rw [e1] at q1
    rw [if_neg (by simp)]
    repeat' (first | with_reducible first | refine kI (by kernel_rfl) ?_ | refine kN (by kernel_rfl) ?_ | simp -implicitDefEqProofs (disch := omega) only [go_sem, Nat.reduceAdd, Nat.reduceSub, reduceCtorEq, Nat.reduceLT, Nat.reduceLeDiff, Nat.reduceEqDiff, ↓reduceIte, List.take_of_length_le, if_pos, if_neg, getD_exs, cnE, cnV, Tryz.ntmps26, Tryz.results26,  hb, q1])
    try rfl
  | true =>
    rw [e1] at q1
    rw [if_pos rfl]
    obtain ⟨h1, h2, h3⟩ := h
    have hK : opF B = ((List.range B.e.length).filter fun i => (B.e.getD i ex0).o).map fun i : Nat => (i : Int) := rfl
    repeat' (first | with_reducible first | refine kI (by kernel_rfl) ?_ | simp -implicitDefEqProofs (disch := omega) only [go_sem, Nat.reduceAdd, Nat.reduceSub, reduceCtorEq, Nat.reduceLT, Nat.reduceLeDiff, Nat.reduceEqDiff, ↓reduceIte, List.take_of_length_le, if_pos, if_neg, getD_exs, cnE, cnV, Tryz.ntmps26, Tryz.results26,  hb, q1])
    refine LoopQ.mixG 2 (fun t0 L0 nn ss => ∃ (i : Nat) (q : List Int) (_ : Unit), (∃ x : Nat → AV, ss = ⟨mixL 0 (.k :: .k :: .k :: .v (.sl 1 q.length 0 q.length q.length) :: .s :: .s :: .k :: .k :: .k :: .k :: .k :: .k :: .k :: .v (i64 (i : Nat)) :: .s :: .s :: .s :: .s :: .s :: .s :: .s :: .s :: .s :: .s :: .s :: .k :: []) t0 x, [⟨2, [bfA 0 B]⟩, stB q]⟩) ∧ (i ≤ B.e.length) ∧ (q.length ≤ i) ∧ (q = ((List.range i).filter fun i => (B.e.getD i ex0).o).map fun i : Nat => (i : Int)) ∧ nn = B.e.length - i) (by simp) ?_ ?_
    · exact ⟨_, ⟨0, [], (), mixJ rfl (rfl), Nat.zero_le _, Nat.zero_le _, rfl, rfl⟩⟩
    · rintro I0 hI0 nn ss ⟨i, q, _, ⟨y, rfl⟩, g1, g2, g3, rfl⟩
      by_cases hi : i < B.e.length
      · have hii : (i : Int) < (B.e.length : Int) := by omega
        have hge := getD_exs (t := 0) hi
        cases ho : (B.e.getD i ex0).o with
        | false =>
          have hf := filt_f (p := fun i => (B.e.getD i ex0).o) (n := i) ho
          repeat' (first | with_reducible first | refine kI (by kernel_rfl) ?_ | refine kN (by kernel_rfl) ?_ | simp -implicitDefEqProofs (disch := omega) only [go_sem, Nat.reduceAdd, Nat.reduceSub, reduceCtorEq, Nat.reduceLT, Nat.reduceLeDiff, Nat.reduceEqDiff, ↓reduceIte, List.take_of_length_le, if_pos, if_neg, getD_exs, cnE, cnV, Tryz.ntmps26, Tryz.results26,  hii, hge, ho])
          exact ⟨B.e.length - (i + 1), by omega, hI0 _ _ ⟨i + 1, q, (), mixI rfl, hi, by omega, g3.trans hf, rfl⟩⟩
        | true =>
          have hf := filt_t (p := fun i => (B.e.getD i ex0).o) (n := i) ho
          rw [← g3] at hf
          repeat' (first | with_reducible first | refine kI (by kernel_rfl) ?_ | refine kN (by kernel_rfl) ?_ | simp -implicitDefEqProofs (disch := omega) only [go_sem, Nat.reduceAdd, Nat.reduceSub, reduceCtorEq, Nat.reduceLT, Nat.reduceLeDiff, Nat.reduceEqDiff, ↓reduceIte, List.take_of_length_le, if_pos, if_neg, getD_exs, cnE, cnV, Tryz.ntmps26, Tryz.results26,  hii, hge, ho])
          exact ⟨B.e.length - (i + 1), by omega, hI0 _ _ ⟨i + 1, q ++ [(i : Int)], (), mixI (by rw [List.length_append]; rfl), hi, by rw [List.length_append]; simp; omega, hf, rfl⟩⟩
      · obtain rfl : i = B.e.length := by omega
        rw [← hK] at g3
        rw [← g3]
        repeat' (first | with_reducible first | refine kI (by kernel_rfl) ?_ | refine kN (by kernel_rfl) ?_ | simp -implicitDefEqProofs (disch := omega) only [go_sem, Nat.reduceAdd, Nat.reduceSub, reduceCtorEq, Nat.reduceLT, Nat.reduceLeDiff, Nat.reduceEqDiff, ↓reduceIte, List.take_of_length_le, if_pos, if_neg, getD_exs, cnE, cnV, Tryz.ntmps26, Tryz.results26])
def gKidT (B : Bf) (id : Int) : Option (List Int) := gd (bfB B) (if bufOK B = true ∧ inR id (-1) ((B.e.length : Int) - 1) = true then kidF B id else [])
theorem gKidT_eq {B : Bf} (h : bfB B) (id : Int) : gKidT B id = some (if bufOK B = true ∧ inR id (-1) ((B.e.length : Int) - 1) = true then kidF B id else []) := gd_eq h
set_option maxHeartbeats 4000000 in
set_option maxRecDepth 100000 in
theorem spec_KidsOf {Sg : FuncId → Option (List AV → Option AV)} (hS : Sound Tryz.prog Sg) (hb : Sg 61 = some (F1 gBuf)) : ∀ a r, F2 gKidT a = some r → CSpec Tryz.prog 134 a r := by
  refine F2_spec ?_
  intro B id r hr0
  obtain ⟨h, rfl⟩ := gd_some hr0
  refine CSpec.intro Tryz.func134 rfl (own _) (vc3_sound Tryz.pf hS hS _ _ _ ?_)
  have q1 := gBuf_eq h
  cases e1 : bufOK B with
  | false =>
    rw [e1] at q1
    rw [if_neg (by simp)]
    repeat' (first | with_reducible first | refine kI (by kernel_rfl) ?_ | refine kN (by kernel_rfl) ?_ | simp -implicitDefEqProofs (disch := omega) only [go_sem, Nat.reduceAdd, Nat.reduceSub, reduceCtorEq, Nat.reduceLT, Nat.reduceLeDiff, Nat.reduceEqDiff, ↓reduceIte, List.take_of_length_le, if_pos, if_neg, getD_exs, cnE, cnV, Tryz.ntmps134, Tryz.results134,  hb, q1])
    try rfl
  | true =>
    rw [e1] at q1
    obtain ⟨h1, h2, h3⟩ := h
    by_cases p1 : id < -1
    · rw [if_neg (by unfold inR; simp; omega)]
      repeat' (first | with_reducible first | refine kI (by kernel_rfl) ?_ | refine kN (by kernel_rfl) ?_ | simp -implicitDefEqProofs (disch := omega) only [go_sem, Nat.reduceAdd, Nat.reduceSub, reduceCtorEq, Nat.reduceLT, Nat.reduceLeDiff, Nat.reduceEqDiff, ↓reduceIte, List.take_of_length_le, if_pos, if_neg, getD_exs, cnE, cnV, Tryz.ntmps134, Tryz.results134,  hb, q1, p1])
      try rfl
    · by_cases p2 : (B.e.length : Int) ≤ id
      · rw [if_neg (by unfold inR; simp; omega)]
        repeat' (first | with_reducible first | refine kI (by kernel_rfl) ?_ | refine kN (by kernel_rfl) ?_ | simp -implicitDefEqProofs (disch := omega) only [go_sem, Nat.reduceAdd, Nat.reduceSub, reduceCtorEq, Nat.reduceLT, Nat.reduceLeDiff, Nat.reduceEqDiff, ↓reduceIte, List.take_of_length_le, if_pos, if_neg, getD_exs, cnE, cnV, Tryz.ntmps134, Tryz.results134,  hb, q1, p1, p2])
        try rfl
      · rw [if_pos (by unfold inR; simp; omega)]
        have hK : kidF B id = ((List.range B.e.length).filter fun i => (B.e.getD i ex0).o && ((B.e.getD i ex0).p == id)).map fun i : Nat => (i : Int) := rfl
        repeat' (first | with_reducible first | refine kI (by kernel_rfl) ?_ | simp -implicitDefEqProofs (disch := omega) only [go_sem, Nat.reduceAdd, Nat.reduceSub, reduceCtorEq, Nat.reduceLT, Nat.reduceLeDiff, Nat.reduceEqDiff, ↓reduceIte, List.take_of_length_le, if_pos, if_neg, getD_exs, cnE, cnV, Tryz.ntmps134, Tryz.results134,  hb, q1, p1, p2])
        refine LoopQ.mixG 2 (fun t0 L0 nn ss => ∃ (i : Nat) (q : List Int) (_ : Unit), (∃ x : Nat → AV, ss = ⟨mixL 0 (.k :: .k :: .k :: .k :: .k :: .v (.sl 1 q.length 0 q.length q.length) :: .s :: .s :: .k :: .k :: .k :: .k :: .k :: .k :: .k :: .k :: .k :: .k :: .k :: .k :: .k :: .k :: .k :: .k :: .k :: .k :: .v (i64 (i : Nat)) :: .s :: .s :: .s :: .s :: .s :: .s :: .s :: .s :: .s :: .s :: .s :: .s :: .s :: .s :: .s :: .s :: .s :: .k :: []) t0 x, [⟨2, [bfA 0 B]⟩, stB q]⟩) ∧ (i ≤ B.e.length) ∧ (q.length ≤ i) ∧ (q = ((List.range i).filter fun i => (B.e.getD i ex0).o && ((B.e.getD i ex0).p == id)).map fun i : Nat => (i : Int)) ∧ nn = B.e.length - i) (by simp) ?_ ?_
        · exact ⟨_, ⟨0, [], (), mixJ rfl (rfl), Nat.zero_le _, Nat.zero_le _, rfl, rfl⟩⟩
        · rintro I0 hI0 nn ss ⟨i, q, _, ⟨y, rfl⟩, g1, g2, g3, rfl⟩
          by_cases hi : i < B.e.length
          · have hii : (i : Int) < (B.e.length : Int) := by omega
            have hge := getD_exs (t := 0) hi
            cases ho : (B.e.getD i ex0).o with
            | false =>
              have hf := filt_f (p := fun i => (B.e.getD i ex0).o && ((B.e.getD i ex0).p == id)) (n := i) (by rw [ho]; rfl)
              repeat' (first | with_reducible first | refine kI (by kernel_rfl) ?_ | refine kN (by kernel_rfl) ?_ | simp -implicitDefEqProofs (disch := omega) only [go_sem, Nat.reduceAdd, Nat.reduceSub, reduceCtorEq, Nat.reduceLT, Nat.reduceLeDiff, Nat.reduceEqDiff, ↓reduceIte, List.take_of_length_le, if_pos, if_neg, getD_exs, cnE, cnV, Tryz.ntmps134, Tryz.results134,  hii, hge, ho])
              exact ⟨B.e.length - (i + 1), by omega, hI0 _ _ ⟨i + 1, q, (), mixI rfl, hi, by omega, g3.trans hf, rfl⟩⟩
            | true =>
              cases hp : ((B.e.getD i ex0).p == id) with
              | false =>
                have hf := filt_f (p := fun i => (B.e.getD i ex0).o && ((B.e.getD i ex0).p == id)) (n := i) (by rw [ho, hp]; rfl)
                repeat' (first | with_reducible first | refine kI (by kernel_rfl) ?_ | refine kN (by kernel_rfl) ?_ | simp -implicitDefEqProofs (disch := omega) only [go_sem, Nat.reduceAdd, Nat.reduceSub, reduceCtorEq, Nat.reduceLT, Nat.reduceLeDiff, Nat.reduceEqDiff, ↓reduceIte, List.take_of_length_le, if_pos, if_neg, getD_exs, cnE, cnV, Tryz.ntmps134, Tryz.results134,  hii, hge, ho, hp])
                exact ⟨B.e.length - (i + 1), by omega, hI0 _ _ ⟨i + 1, q, (), mixI rfl, hi, by omega, g3.trans hf, rfl⟩⟩
              | true =>
                have hf := filt_t (p := fun i => (B.e.getD i ex0).o && ((B.e.getD i ex0).p == id)) (n := i) (by rw [ho, hp]; rfl)
                rw [← g3] at hf
                repeat' (first | with_reducible first | refine kI (by kernel_rfl) ?_ | refine kN (by kernel_rfl) ?_ | simp -implicitDefEqProofs (disch := omega) only [go_sem, Nat.reduceAdd, Nat.reduceSub, reduceCtorEq, Nat.reduceLT, Nat.reduceLeDiff, Nat.reduceEqDiff, ↓reduceIte, List.take_of_length_le, if_pos, if_neg, getD_exs, cnE, cnV, Tryz.ntmps134, Tryz.results134,  hii, hge, ho, hp])
                exact ⟨B.e.length - (i + 1), by omega, hI0 _ _ ⟨i + 1, q ++ [(i : Int)], (), mixI (by rw [List.length_append]; rfl), hi, by rw [List.length_append]; simp; omega, hf, rfl⟩⟩
          · obtain rfl : i = B.e.length := by omega
            rw [← hK] at g3
            rw [← g3]
            repeat' (first | with_reducible first | refine kI (by kernel_rfl) ?_ | refine kN (by kernel_rfl) ?_ | simp -implicitDefEqProofs (disch := omega) only [go_sem, Nat.reduceAdd, Nat.reduceSub, reduceCtorEq, Nat.reduceLT, Nat.reduceLeDiff, Nat.reduceEqDiff, ↓reduceIte, List.take_of_length_le, if_pos, if_neg, getD_exs, cnE, cnV, Tryz.ntmps134, Tryz.results134])
theorem opn_hold {B : Bf} {k : Nat} (h : bufOK B = true) (hk : k < B.e.length) (ho : (B.e.getD k ex0).o = true) : holdB B.c (B.e.getD k ex0).v = true := by
  obtain ⟨h1, h2, h3⟩ := bufOK_iff.1 h
  obtain ⟨-, v1, f1⟩ := exOK_iff.1 (h3 k hk)
  unfold holdB
  rw [h1, v1, (f1 ho).1]; rfl
def vwB (B : Bf) (id : Int) : Vi := (B.e.getD id.toNat ex0).v
def loaR (B : Bf) (id : Int) : List Int := if bufOK B = true ∧ opnB B id = true then tkn B.c (offF (vwB B id)) else []
def gLoadX (B : Bf) (id : Int) : Option (List Int) := gd (bfB B) (loaR B id)
theorem gLoadX_eq {B : Bf} (h : bfB B) (id : Int) : gLoadX B id = some (loaR B id) := gd_eq h
set_option maxHeartbeats 4000000 in
set_option maxRecDepth 100000 in
theorem spec_LoadExport {Sg : FuncId → Option (List AV → Option AV)} (hS : Sound Tryz.prog Sg) (ho : Sg 97 = some (F2 gOpn)) (hl : Sg 135 = some (F2 gLoadI)) : ∀ a r, F2 gLoadX a = some r → CSpec Tryz.prog 98 a r := by
  refine F2_spec ?_
  intro B id r hr0
  obtain ⟨h, rfl⟩ := gd_some hr0
  refine CSpec.intro Tryz.func98 rfl (own _) (vc3_sound Tryz.pf hS hS _ _ _ ?_)
  have q1 := gOpn_eq h id
  unfold loaR
  cases e1 : bufOK B with
  | false =>
    rw [e1] at q1
    rw [if_neg (by simp)]
    repeat' (first | with_reducible first | refine kI (by kernel_rfl) ?_ | refine kN (by kernel_rfl) ?_ | simp -implicitDefEqProofs (disch := omega) only [go_sem, Nat.reduceAdd, Nat.reduceSub, reduceCtorEq, Nat.reduceLT, Nat.reduceLeDiff, Nat.reduceEqDiff, ↓reduceIte, List.take_of_length_le, if_pos, if_neg, getD_exs, cnE, cnV, Tryz.ntmps98, Tryz.results98,  ho, q1])
    try rfl
  | true =>
    cases e2 : opnB B id with
    | false =>
      rw [e1, e2] at q1
      rw [if_neg (by simp)]
      repeat' (first | with_reducible first | refine kI (by kernel_rfl) ?_ | refine kN (by kernel_rfl) ?_ | simp -implicitDefEqProofs (disch := omega) only [go_sem, Nat.reduceAdd, Nat.reduceSub, reduceCtorEq, Nat.reduceLT, Nat.reduceLeDiff, Nat.reduceEqDiff, ↓reduceIte, List.take_of_length_le, if_pos, if_neg, getD_exs, cnE, cnV, Tryz.ntmps98, Tryz.results98,  ho, q1])
      try rfl
    | true =>
      rw [e1, e2] at q1
      rw [if_pos ⟨rfl, rfl⟩]
      obtain ⟨k, rfl, hk, hko⟩ := opnB_iff.1 e2
      have q2 := gLoadI_eq (opn_hold e1 hk hko)
      unfold vwB
      rw [Int.toNat_natCast]
      repeat' (first | with_reducible first | refine kI (by kernel_rfl) ?_ | refine kN (by kernel_rfl) ?_ | simp -implicitDefEqProofs (disch := omega) only [go_sem, Nat.reduceAdd, Nat.reduceSub, reduceCtorEq, Nat.reduceLT, Nat.reduceLeDiff, Nat.reduceEqDiff, ↓reduceIte, List.take_of_length_le, if_pos, if_neg, getD_exs, cnE, cnV, Tryz.ntmps98, Tryz.results98,  ho, q1, getD_exs hk, hl, q2])
      try rfl
end Go.Proofs.YtkmnepmnjpdpkaaGreatDoor
namespace Go.Proofs.YtkmnepmnjpdpkaaGreatDoor
open Go Go.Ev Go.RowKit Go.Ev.Enc Go.Pl

def gEqB (A B : Bf) : Option Bool := gd (bfB A ∧ bfB B) (decide (A = B))
theorem gEqB_eq {A B : Bf} (h1 : bfB A) (h2 : bfB B) : gEqB A B = some (decide (A = B)) := gd_eq ⟨h1, h2⟩
def exR (n : Nat) : List Ex → AV
  | [] => .nilS
  | x :: l => .sl n (x :: l).length 0 (x :: l).length (x :: l).length
def exN : List Ex → List Blk
  | [] => []
  | x :: l => [exB 1 (x :: l)]
abbrev bfR (B : Bf) (n : Nat) : AV := .agg [.sl n B.c.length 0 B.c.length B.c.length, exR (n + 1) B.e]
abbrev bfN (B : Bf) (_ : Nat) : List Blk := stB B.c :: exN B.e
def bbR (o : Option Bf) (n : Nat) : AV := match o with
  | some B => .tup [bfR B n, .bool true]
  | none => .tup [.agg [.nilS, .nilS], .bool false]
def bbN (o : Option Bf) (n : Nat) : List Blk := match o with
  | some B => bfN B n
  | none => []
theorem exR_ne {n : Nat} {l : List Ex} (h : l ≠ []) : exR n l = .sl n l.length 0 l.length l.length := by cases l with
  | nil => exact absurd rfl h
  | cons => rfl
theorem isCell_exR (n : Nat) (l : List Ex) : (exR n l).isCell = true := by cases l <;> rfl
theorem cellsOk_exR (n : Nat) (l : List Ex) : cellsOk (exR n l) = true := by cases l <;> rfl
theorem cells_exR (n : Nat) (l : List Ex) : (exR n l).cells = [exR n l] := by cases l <;> rfl
theorem elem_exR (n : Nat) (l : List Ex) : (exR n l).isElem = true := by cases l <;> rfl
attribute [go_sem] isCell_exR cellsOk_exR cells_exR elem_exR
theorem exN_ne {l : List Ex} (h : l ≠ []) : exN l = [exB 1 l] := by cases l with
  | nil => exact absurd rfl h
  | cons => rfl
theorem selM_exs {g : Nat → Option Nat} {L : List Blk} {t : Nat} {l : List Ex} : (exL t l).map (expE (selC g L)) = exL t l := by
  simp [expE, selC, selStep, Function.comp_def]
theorem ownM_exs {n t : Nat} (ht : 0 < t) {l : List Ex} : (exL t l).map (expE (ownC n)) = exL t l := by
  simp [expE, ownC, ownStep, ht, Function.comp_def]
theorem ownM_ints {n : Nat} {l : List Int} : (l.map fun n => AV.int .i64 n).map (expE (ownC n)) = l.map fun n => .int .i64 n := by
  rw [List.map_map]; rfl
theorem ownB_st {n : Nat} {l : List Int} : ownB n (stB l) = stB l := by unfold ownB; rw [ownM_ints]
theorem ownB_ex {n : Nat} {l : List Ex} : ownB n (exB 1 l) = exB 1 l := by unfold ownB; rw [ownM_exs (by decide)]
theorem selB_st {g : Nat → Option Nat} {L : List Blk} {l : List Int} : selB g L (stB l) = stB l := by unfold selB; rw [selM_ints]
theorem selB_ex {g : Nat → Option Nat} {L : List Blk} {t : Nat} {l : List Ex} : selB g L (exB t l) = exB t l := by unfold selB; rw [selM_exs]
attribute [go_sem] selM_exs
def exAt (L : List Blk) (be : AV) (l : List Ex) : Prop := (l = [] ∧ be = .nilS) ∨ (l ≠ [] ∧ ∃ j, be = .sl j l.length 0 l.length l.length ∧ L[j]? = some (exB 1 l))
theorem getD_of {L : List Blk} {i : Nat} {k : Blk} (h : L[i]? = some k) (d : Blk) : L.getD i d = k := by simp [List.getD_eq_getElem?_getD, h]
theorem ret_bf {B : Bf} {i : Nat} {be : AV} {L : List Blk} (hi : L[i]? = some (stB B.c)) (he : exAt L be B.e) (hd : ∀ j v o n c, be = .sl j v o n c → j ≠ i) {P : AV → List Blk → Prop}
    (hP : ∀ v N, (∀ n, ownV n v = bfR B n) → (∀ n, N.map (ownB n) = bfN B n) → (∃ g, v = .agg [selC g L (.sl i B.c.length 0 B.c.length B.c.length), selC g L be]) → P v N) :
    ∃ sel : List Nat, sel.Nodup ∧ (∀ b ∈ sel, 0 ≤ b ∧ b < L.length) ∧ P (.agg [selC (gR 0 sel) L (.sl i B.c.length 0 B.c.length B.c.length), selC (gR 0 sel) L be]) (sel.map fun b => selB (gR 0 sel) L (L.getD b ⟨0, []⟩)) := by
  have hil := (List.getElem?_eq_some_iff.1 hi).1
  rcases he with ⟨h1, rfl⟩ | ⟨h1, j, rfl, hj⟩
  · refine ⟨[i], by simp, by simpa using hil, hP _ _ ?_ ?_ ⟨_, rfl⟩⟩
    · intro n
      have e : gR 0 [i] i = some 0 := by simp [gR]
      rw [selC_sl, e, selSl_some, selC_nil, bfR, h1]
      simp [ownV, expE, ownC, ownStep, exR]
    · intro n
      simp only [List.map_cons, List.map_nil, getD_of hi, selB_st, ownB_st, bfN, h1, exN]
  · have hjl := (List.getElem?_eq_some_iff.1 hj).1
    have hji := hd j _ _ _ _ rfl
    refine ⟨[i, j], by simp [Ne.symm hji], by simp; omega, hP _ _ ?_ ?_ ⟨_, rfl⟩⟩
    · intro n
      have e : gR 0 [i, j] i = some 0 := by simp [gR, List.idxOf?_cons]
      have e2 : gR 0 [i, j] j = some 1 := by
        have : (i == j) = false := by simpa using Ne.symm hji
        simp [gR, List.idxOf?_cons, this]
      rw [selC_sl, e, selSl_some, selC_sl, e2, selSl_some, bfR, exR_ne h1]
      simp [ownV, expE, ownC, ownStep]
    · intro n
      simp only [List.map_cons, List.map_nil, getD_of hi, getD_of hj, selB_st, selB_ex, ownB_st, ownB_ex, bfN, exN_ne h1]
theorem ret_B {B : Bf} {i : Nat} {be : AV} {L : List Blk} (hi : L[i]? = some (stB B.c)) (he : exAt L be B.e) (hd : ∀ j v o n c, be = .sl j v o n c → j ≠ i) :
    RetQ [] (fun v L' => (∀ n, ownV n v = bfR B n) ∧ ∀ n, L'.map (ownB n) = bfN B n) (.agg [.sl i B.c.length 0 B.c.length B.c.length, be]) L := by
  obtain ⟨sel, h1, h2, h3⟩ := ret_bf hi he hd (P := fun v N => (∀ n, ownV n v = bfR B n) ∧ ∀ n, N.map (ownB n) = bfN B n) (fun v N a b _ => ⟨a, b⟩)
  exact ⟨sel, h1, h2, Nat.zero_le _, fun b hb => absurd hb (Nat.not_lt_zero _), by simpa [selV, expE] using h3⟩
theorem ret_BB {B : Bf} {i : Nat} {be : AV} {L : List Blk} (hi : L[i]? = some (stB B.c)) (he : exAt L be B.e) (hd : ∀ j v o n c, be = .sl j v o n c → j ≠ i) :
    RetQ [] (fun v L' => (∀ n, ownV n v = bbR (some B) n) ∧ ∀ n, L'.map (ownB n) = bbN (some B) n) (.tup [.agg [.sl i B.c.length 0 B.c.length B.c.length, be], .bool true]) L := by
  obtain ⟨sel, h1, h2, h3⟩ := ret_bf hi he hd (P := fun v N => (∀ n, ownV n (.tup [v, .bool true]) = bbR (some B) n) ∧ ∀ n, N.map (ownB n) = bbN (some B) n) (fun v N a b ⟨g, c⟩ => ⟨fun n => by
    have := a n
    subst c
    simp only [ownV, List.map_cons, List.map_nil, bbR]
    rw [← this]; rfl, b⟩)
  exact ⟨sel, h1, h2, Nat.zero_le _, fun b hb => absurd hb (Nat.not_lt_zero _), by simpa [selV, expE, selC, selStep] using h3⟩
theorem ret_B0 {L : List Blk} : RetQ [] (fun v L' => (∀ n, ownV n v = bbR none n) ∧ ∀ n, L'.map (ownB n) = bbN none n) (.tup [.agg [.nilS, .nilS], .bool false]) L :=
  ⟨[], by simp, by simp, Nat.zero_le _, fun b hb => absurd hb (Nat.not_lt_zero _), fun n => by simp [selV, expE, selC, selStep, ownV, ownC, ownStep, bbR], fun n => rfl⟩
end Go.Proofs.YtkmnepmnjpdpkaaGreatDoor
namespace Go.Proofs.YtkmnepmnjpdpkaaGreatDoor
open Go Go.Ev Go.RowKit Go.Ev.Enc Go.Pl

theorem selC_exs {g : Nat → Option Nat} {L : List Blk} {t t' : Nat} {l : List Ex} : selC g L (.ds t (exL t' l)) = .ds t (exL t' l) := by
  simp [expE, selC, selStep, Function.comp_def]
attribute [go_sem] selC_exs
theorem evApp_x4 {B0 B1 B2 B3 : Blk} {L : List Blk} {n by' : Nat} {q : List AV} {x : AV} (hn : q.length = n) (h1 : (n + 1) * by' ≤ 140737488355328) (h2 : n + 1 ≤ 9223372036854775807) :
    evApp (B0 :: B1 :: B2 :: B3 :: ⟨5, q⟩ :: L) (.sl 4 n 0 n n) [x] 5 by' = some (.sl 4 (n + 1) 0 (n + 1) (n + 1), B0 :: B1 :: B2 :: B3 :: ⟨5, q ++ [x]⟩ :: L) := by
  rw [evApp_gen (b := 4) (q := q) (new := [x]) rfl hn h1 h2]; rfl
def bfM (B : Bf) : Prop := B.c.length ≤ 1048576 ∧ B.e.length ≤ 1048576 ∧ ∀ i, i < B.e.length → viM (B.e.getD i ex0).v
theorem bfM_of {B : Bf} (h : bufOK B = true) : bfM B := by
  obtain ⟨h1, h2, h3⟩ := bufOK_iff.1 h
  have := (memOK_iff.1 h1).1
  refine ⟨by omega, by omega, fun i hi => ?_⟩
  have hv := (exOK_iff.1 (h3 i hi)).2.1
  have := (shape_facts (vOK hv).1).1
  have := (vOK hv).2
  exact ⟨by omega, by omega⟩
theorem take_ne {l : List Ex} {k : Nat} (h : k + 1 ≤ l.length) : l.take (k + 1) ≠ [] := by
  intro h0
  have := congrArg List.length h0
  rw [List.length_take, List.length_nil] at this
  omega
theorem take_sn {l : List Ex} {k : Nat} (h : k < l.length) : l.take (k + 1) = l.take k ++ [l.getD k ex0] := by
  rw [List.take_succ_eq_append_getElem h]; simp [h]
set_option maxHeartbeats 4000000 in
set_option maxRecDepth 100000 in
theorem o_copyBufferS {Sg : FuncId → Option (List AV → Option AV)} (hS : Sound Tryz.prog Sg) (n1 : Sg 106 = none) (n2 : Sg 105 = none) (B : Bf) (h : bfM B) (hcv : CopyVi) (hcp : CopyV) : OSpec Tryz.prog 59 [bfA 0 B] (bfR B) (bfN B) := by
  refine OSpec.ofR Tryz.func59 rfl (vc3_sound Tryz.pf hS hS _ _ _ ?_)
  obtain ⟨h1, h2, h3⟩ := h
  repeat' (first | with_reducible first | refine kI (by kernel_rfl) ?_ | simp -implicitDefEqProofs (disch := omega) only [go_sem, Nat.reduceAdd, Nat.reduceSub, reduceCtorEq, Nat.reduceLT, Nat.reduceLeDiff, Nat.reduceEqDiff, ↓reduceIte, List.take_of_length_le, if_pos, if_neg, getD_exs, cnE, cnV, Tryz.ntmps59, Tryz.results59,  n2, opQ_none])
  refine InlK_intro rfl rfl can_copyV ((hcp B.c h1).call (by simp only [go_sem, ints]) ?_)
  repeat' (first | with_reducible first | refine kI (by kernel_rfl) ?_ | simp -implicitDefEqProofs (disch := omega) only [go_sem, Nat.reduceAdd, Nat.reduceSub, reduceCtorEq, Nat.reduceLT, Nat.reduceLeDiff, Nat.reduceEqDiff, ↓reduceIte, List.take_of_length_le, if_pos, if_neg, getD_exs, cnE, cnV, Tryz.ntmps59, Tryz.results59])
  refine LoopQ.mixS 4 (fun t0 L0 nn ss => ∃ (i : Nat) (_ : Unit), (∃ x : Nat → AV, ss = ⟨mixL 0 (.k :: .k :: .k :: .k :: .v (i64 (i : Nat)) :: .s :: .k :: .k :: .k :: .k :: .s :: .s :: .s :: .s :: .s :: .s :: .s :: .s :: .s :: .s :: .s :: .s :: .s :: .s :: .s :: .s :: .s :: .s :: .s :: .s :: .s :: .s :: .k :: []) t0 x, [⟨2, [bfA 0 B]⟩, ⟨2, [.agg [.nilS, .nilS]]⟩, stB B.c, ⟨2, [.agg [.sl 2 B.c.length 0 B.c.length B.c.length, exR 4 (B.e.take i)]]⟩] ++ exN (B.e.take i)⟩) ∧ (i ≤ B.e.length) ∧ nn = B.e.length - i) (by simp) ?_ ?_
  · exact ⟨_, ⟨0, (), mixJ rfl (rfl), Nat.zero_le _, rfl⟩⟩
  · rintro I0 hI0 nn ss ⟨i, _, ⟨y, rfl⟩, g1, rfl⟩
    by_cases hi : i < B.e.length
    · have hii : (i : Int) < (B.e.length : Int) := by omega
      have hge := getD_exs (t := 0) hi
      have hvm := h3 i hi
      match i, hi with
      | 0, hi =>
        rw [List.take_zero, exR, exN]
        repeat' (first | with_reducible first | refine kI (by kernel_rfl) ?_ | simp -implicitDefEqProofs (disch := omega) only [go_sem, Nat.reduceAdd, Nat.reduceSub, reduceCtorEq, Nat.reduceLT, Nat.reduceLeDiff, Nat.reduceEqDiff, ↓reduceIte, List.take_of_length_le, if_pos, if_neg, getD_exs, cnE, cnV, Tryz.ntmps59, Tryz.results59,  hii, hge, n1, opQ_none])
        refine InlK_intro rfl rfl can_copyView ((hcv (B.e.getD 0 ex0).v hvm).call (by simp only [go_sem, ints]) ?_)
        repeat' (first | with_reducible first | refine kI (by kernel_rfl) ?_ | simp -implicitDefEqProofs (disch := omega) only [go_sem, Nat.reduceAdd, Nat.reduceSub, reduceCtorEq, Nat.reduceLT, Nat.reduceLeDiff, Nat.reduceEqDiff, ↓reduceIte, List.take_of_length_le, if_pos, if_neg, getD_exs, cnE, cnV, Tryz.ntmps59, Tryz.results59])
        refine InvS.intro [7] (B.e.length - 1) (by omega) (by simp) (by simp) (by simp) ?_
        simp -implicitDefEqProofs only [go_sem, Nat.reduceAdd, Nat.reduceSub, reduceCtorEq, Nat.reduceLT, Nat.reduceLeDiff, Nat.reduceEqDiff, Nat.reduceMul, Int.reduceToNat, ↓reduceIte, Nat.reduceBEq, gR, gR_0, List.idxOf?_cons, List.idxOf?_nil, Option.map_some, Option.map_none]
        exact hI0 _ _ ⟨0 + 1, (), mixJ rfl (by rw [take_sn hi, List.take_zero, List.nil_append]; rfl), hi, rfl⟩
      | i + 1, hi =>
        have hii : ((i + 1 : Nat) : Int) < (B.e.length : Int) := by omega
        have hge := getD_exs (t := 0) hi
        have hvm := h3 (i + 1) hi
        rw [exR_ne (take_ne (by omega)), exN_ne (take_ne (by omega))]
        have hql : (B.e.take (i + 1)).length = i + 1 := by rw [List.length_take]; omega
        have htk := take_sn hi
        obtain ⟨q, hq⟩ : ∃ q, B.e.take (i + 1) = q := ⟨_, rfl⟩
        rw [hq] at hql htk ⊢
        obtain ⟨x, hx⟩ : ∃ x, B.e.getD (i + 1) ex0 = x := ⟨_, rfl⟩
        rw [hx] at hge hvm htk
        have ea := fun (B0 B1 B2 B3 : Blk) (L : List Blk) (z : AV) => evApp_x4 (B0 := B0) (B1 := B1) (B2 := B2) (B3 := B3) (L := L) (x := z) (n := q.length) (by' := 72) (q := exL 1 q) (len_exs 1 q) (by omega) (by omega)
        repeat' (first | with_reducible first | refine kI (by kernel_rfl) ?_ | simp -implicitDefEqProofs (disch := omega) only [go_sem, Nat.reduceAdd, Nat.reduceSub, reduceCtorEq, Nat.reduceLT, Nat.reduceLeDiff, Nat.reduceEqDiff, ↓reduceIte, List.take_of_length_le, if_pos, if_neg, getD_exs, cnE, cnV, Tryz.ntmps59, Tryz.results59,  hii, hge, n1, opQ_none])
        refine InlK_intro rfl rfl can_copyView ((hcv x.v hvm).call (by simp only [go_sem, ints]) ?_)
        repeat' (first | with_reducible first | refine kI (by kernel_rfl) ?_ | simp -implicitDefEqProofs (disch := omega) only [go_sem, Nat.reduceAdd, Nat.reduceSub, reduceCtorEq, Nat.reduceLT, Nat.reduceLeDiff, Nat.reduceEqDiff, ↓reduceIte, List.take_of_length_le, if_pos, if_neg, getD_exs, cnE, cnV, Tryz.ntmps59, Tryz.results59,  ea])
        refine InvS.intro [4] (B.e.length - (i + 2)) (by omega) (by simp) (by simp) (by simp) ?_
        simp -implicitDefEqProofs only [go_sem, Nat.reduceAdd, Nat.reduceSub, reduceCtorEq, Nat.reduceLT, Nat.reduceLeDiff, Nat.reduceEqDiff, Nat.reduceMul, Int.reduceToNat, ↓reduceIte, Nat.reduceBEq, gR, gR_0, List.idxOf?_cons, List.idxOf?_nil, Option.map_some, Option.map_none, List.map_append]
        exact hI0 _ _ ⟨i + 1 + 1, (), mixJ rfl (by rw [htk, exR_ne (by simp), exN_ne (by simp), List.length_append]; simp), hi, rfl⟩
    · obtain rfl : i = B.e.length := by omega
      rw [List.take_length]
      repeat' (first | with_reducible first | refine kI (by kernel_rfl) ?_ | simp -implicitDefEqProofs (disch := omega) only [go_sem, Nat.reduceAdd, Nat.reduceSub, reduceCtorEq, Nat.reduceLT, Nat.reduceLeDiff, Nat.reduceEqDiff, ↓reduceIte, List.take_of_length_le, if_pos, if_neg, getD_exs, cnE, cnV, Tryz.ntmps59, Tryz.results59])
      refine ret_B (B := B) (i := 2) (by rfl) ?_ ?_
      · cases he : B.e with
        | nil => exact .inl ⟨rfl, rfl⟩
        | cons x l => exact .inr ⟨by simp, 4, rfl, rfl⟩
      · intro j v o n c hj
        cases he : B.e with
        | nil => rw [he] at hj; simp [exR] at hj
        | cons x l => rw [he] at hj; simp [exR] at hj; omega
end Go.Proofs.YtkmnepmnjpdpkaaGreatDoor
namespace Go.Proofs.YtkmnepmnjpdpkaaGreatDoor
open Go Go.Ev Go.RowKit Go.Ev.Enc Go.Pl

def icR (o : Option (List Int)) (n : Nat) : AV := match o with
  | some l => .tup [.sl n l.length 0 l.length l.length, .bool true]
  | none => .tup [.nilS, .bool false]
def icN (o : Option (List Int)) (_ : Nat) : List Blk := match o with
  | some l => [stB l]
  | none => []
theorem ret_ic {l : List Int} {i : Nat} {L : List Blk} (hi : L[i]? = some (stB l)) :
    RetQ [] (fun v L' => (∀ n, ownV n v = icR (some l) n) ∧ ∀ n, L'.map (ownB n) = icN (some l) n) (.tup [.sl i l.length 0 l.length l.length, .bool true]) L := by
  have hil := (List.getElem?_eq_some_iff.1 hi).1
  have e : gR 0 [i] i = some 0 := by simp [gR]
  refine ⟨[i], by simp, by simpa using hil, Nat.zero_le _, fun b hb => absurd hb (Nat.not_lt_zero _), fun n => ?_, fun n => ?_⟩
  · rw [selV_tup, List.map_cons, selE_sl, selC_sl, List.length_nil, e, selSl_some]
    simp [ownV, expE, ownC, ownStep, icR, selC, selStep]
  · simp only [List.map_cons, List.map_nil, getD_of hi, selB_st, ownB_st, icN, List.take_zero, List.nil_append, List.length_nil]
theorem ret_ic0 {L : List Blk} : RetQ [] (fun v L' => (∀ n, ownV n v = icR none n) ∧ ∀ n, L'.map (ownB n) = icN none n) (.tup [.nilS, .bool false]) L :=
  ⟨[], by simp, by simp, Nat.zero_le _, fun b hb => absurd hb (Nat.not_lt_zero _), fun n => by simp [selV, expE, selC, selStep, ownV, ownC, ownStep, icR], fun n => rfl⟩
theorem ret_il {l : List Int} {i : Nat} {L : List Blk} (hi : L[i]? = some (stB l)) :
    RetQ [] (fun v L' => (∀ n, ownV n v = .sl n l.length 0 l.length l.length) ∧ ∀ n, L'.map (ownB n) = [stB l]) (.sl i l.length 0 l.length l.length) L := by
  have hil := (List.getElem?_eq_some_iff.1 hi).1
  have e : gR 0 [i] i = some 0 := by simp [gR]
  refine ⟨[i], by simp, by simpa using hil, Nat.zero_le _, fun b hb => absurd hb (Nat.not_lt_zero _), fun n => ?_, fun n => ?_⟩
  · rw [selV_sl, selC_sl, List.length_nil, e, selSl_some]
    simp [ownV, expE, ownC, ownStep]
  · simp only [List.map_cons, List.map_nil, getD_of hi, selB_st, ownB_st, List.take_zero, List.nil_append, List.length_nil]
set_option maxHeartbeats 4000000 in
set_option maxRecDepth 100000 in
theorem o_FillViewS {Sg : FuncId → Option (List AV → Option AV)} (hS : Sound Tryz.prog Sg) (hc : Sg 199 = some (F2 gHolds)) (hr : Sg 100 = some (F3 gInRange)) (ho : Sg 143 = some (F1 gOffsets)) (n1 : Sg 105 = none) (m : List Int) (v : Vi) (x : Int) (h : holdB m v = true) (hx : inR x 0 255 = true) (hcp : CopyV) : OSpec Tryz.prog 169 [ints 0 m, .agg [i64 v.b, ints 0 v.sh, ints 0 v.st], i64 x] (icR (some (stoT m (offF v) (repV v x) (offF v).length))) (icN (some (stoT m (offF v) (repV v x) (offF v).length))) := by
  refine OSpec.ofR Tryz.func169 rfl (vc3_sound Tryz.pf hS hS _ _ _ ?_)
  obtain ⟨h1, h2, h3⟩ := fit_in h
  have hm := (memOK_iff.1 h1).1
  have q1 := gHolds_eq (m := m) (v := v) ⟨by omega, ok_viB h2⟩
  rw [h] at q1
  have q2 := gInRange_eq x 0 255
  rw [hx] at q2
  have h6 := offF_60 (vOK h2).1
  have q3 := gOffsets_eq (vOK h2)
  have hV : ∀ k, k < (offF v).length → (repV v x).getD k 0 = x := fun k hk => by simp [repV, hk]
  generalize repV v x = V at *
  repeat' (first | with_reducible first | refine kI (by kernel_rfl) ?_ | refine kN (by kernel_rfl) ?_ | simp -implicitDefEqProofs (disch := omega) only [go_sem, Nat.reduceAdd, Nat.reduceSub, reduceCtorEq, Nat.reduceLT, Nat.reduceLeDiff, Nat.reduceEqDiff, ↓reduceIte, List.take_of_length_le, if_pos, if_neg, getD_exs, cnE, cnV, Tryz.ntmps169, Tryz.results169,  hc, q1, hr, q2, ho, q3, n1, opQ_none])
  refine InlK_intro rfl rfl can_copyV ((hcp m (by omega)).call (by simp only [go_sem, ints]) ?_)
  repeat' (first | with_reducible first | refine kI (by kernel_rfl) ?_ | refine kN (by kernel_rfl) ?_ | simp -implicitDefEqProofs (disch := omega) only [go_sem, Nat.reduceAdd, Nat.reduceSub, reduceCtorEq, Nat.reduceLT, Nat.reduceLeDiff, Nat.reduceEqDiff, ↓reduceIte, List.take_of_length_le, if_pos, if_neg, getD_exs, cnE, cnV, Tryz.ntmps169, Tryz.results169,  hc, q1, hr, q2, ho, q3])
  generalize offF v = A at *
  refine LoopQ.mix (fun t0 L0 nn ss => ∃ (k : Nat) (_ : Unit), (∃ x : Nat → AV, ss = ⟨mixL 0 (.k :: .k :: .k :: .k :: .k :: .k :: .k :: .k :: .k :: .k :: .v (i64 (k : Nat)) :: .k :: .k :: .k :: .k :: .k :: .k :: .k :: .k :: .k :: .k :: .k :: .k :: .k :: .s :: .s :: .s :: .s :: .s :: .s :: .s :: .s :: .s :: .s :: .s :: .s :: .s :: .k :: []) t0 x, [viB0 v, ⟨1, (stoT m A V k).map fun n => .int .i64 n⟩]⟩) ∧ (k ≤ A.length) ∧ nn = A.length - k) ?_ ?_
  · exact ⟨_, ⟨0, (), mixI rfl, Nat.zero_le _, rfl⟩⟩
  · rintro I0 hI0 nn s ⟨k, _, ⟨y, rfl⟩, g1, rfl⟩
    have hl := stoT_len m A V k
    by_cases hk : k < A.length
    · have hki : (k : Int) < (A.length : Int) := by omega
      obtain ⟨j, hj, hjm⟩ := in_at h3 hk
      have hs : (stoT m A V k).set j x = stoT m A V (k + 1) := by rw [stoT, hj, Int.toNat_natCast, hV k hk]
      have hjl : j < (stoT m A V k).length := by omega
      repeat' (first | with_reducible first | refine kI (by kernel_rfl) ?_ | refine kN (by kernel_rfl) ?_ | simp -implicitDefEqProofs (disch := omega) only [go_sem, Nat.reduceAdd, Nat.reduceSub, reduceCtorEq, Nat.reduceLT, Nat.reduceLeDiff, Nat.reduceEqDiff, ↓reduceIte, List.take_of_length_le, if_pos, if_neg, getD_exs, cnE, cnV, Tryz.ntmps169, Tryz.results169,  hki, getD_ints hk, hj, hl, hjm, hs])
      exact ⟨A.length - (k + 1), by omega, hI0 _ _ ⟨k + 1, (), mixI rfl, hk, rfl⟩⟩
    · obtain rfl : k = A.length := by omega
      repeat' (first | with_reducible first | refine kI (by kernel_rfl) ?_ | refine kN (by kernel_rfl) ?_ | simp -implicitDefEqProofs (disch := omega) only [go_sem, Nat.reduceAdd, Nat.reduceSub, reduceCtorEq, Nat.reduceLT, Nat.reduceLeDiff, Nat.reduceEqDiff, ↓reduceIte, List.take_of_length_le, if_pos, if_neg, getD_exs, cnE, cnV, Tryz.ntmps169, Tryz.results169])
      rw [← hl]
      exact ret_ic (i := 1) rfl
set_option maxHeartbeats 4000000 in
set_option maxRecDepth 100000 in
theorem o_put {Sg : FuncId → Option (List AV → Option AV)} (hS : Sound Tryz.prog Sg) (ho : Sg 143 = some (F1 gOffsets)) (n1 : Sg 105 = none) (m : List Int) (v : Vi) (V : List Int) (e : holdB m v = true) (hV : V.length = (offF v).length) (hcp : CopyV) : OSpec Tryz.prog 201 [ints 0 m, .agg [i64 v.b, ints 0 v.sh, ints 0 v.st], ints 0 V] (fun n => .sl n (stoV m v V).length 0 (stoV m v V).length (stoV m v V).length) (fun _ => [stB (stoV m v V)]) := by
  refine OSpec.ofR Tryz.func201 rfl (vc3_sound Tryz.pf hS hS _ _ _ ?_)
  obtain ⟨h1, h2, h3⟩ := fit_in e
  have hm := (memOK_iff.1 h1).1
  have h6 := offF_60 (vOK h2).1
  have q3 := gOffsets_eq (vOK h2)
  unfold stoV
  repeat' (first | with_reducible first | refine kI (by kernel_rfl) ?_ | refine kN (by kernel_rfl) ?_ | simp -implicitDefEqProofs (disch := omega) only [go_sem, Nat.reduceAdd, Nat.reduceSub, reduceCtorEq, Nat.reduceLT, Nat.reduceLeDiff, Nat.reduceEqDiff, ↓reduceIte, List.take_of_length_le, if_pos, if_neg, getD_exs, cnE, cnV, Tryz.ntmps201, Tryz.results201,  n1, opQ_none])
  refine InlK_intro rfl rfl can_copyV ((hcp m (by omega)).call (by simp only [go_sem, ints]) ?_)
  repeat' (first | with_reducible first | refine kI (by kernel_rfl) ?_ | refine kN (by kernel_rfl) ?_ | simp -implicitDefEqProofs (disch := omega) only [go_sem, Nat.reduceAdd, Nat.reduceSub, reduceCtorEq, Nat.reduceLT, Nat.reduceLeDiff, Nat.reduceEqDiff, ↓reduceIte, List.take_of_length_le, if_pos, if_neg, getD_exs, cnE, cnV, Tryz.ntmps201, Tryz.results201,  ho, q3])
  generalize offF v = A at *
  refine LoopQ.mix (fun t0 L0 nn ss => ∃ (k : Nat) (_ : Unit), (∃ x : Nat → AV, ss = ⟨mixL 0 (.k :: .k :: .k :: .k :: .k :: .k :: .k :: .k :: .k :: .v (i64 (k : Nat)) :: .k :: .k :: .k :: .k :: .s :: .s :: .s :: .s :: .s :: .s :: .s :: .s :: .s :: .s :: .s :: .s :: .s :: .s :: .s :: .s :: .k :: []) t0 x, [viB0 v, ⟨1, (stoT m A V k).map fun n => .int .i64 n⟩]⟩) ∧ (k ≤ A.length) ∧ nn = A.length - k) ?_ ?_
  · exact ⟨_, ⟨0, (), mixI rfl, Nat.zero_le _, rfl⟩⟩
  · rintro I0 hI0 nn s ⟨k, _, ⟨y, rfl⟩, g1, rfl⟩
    have hl := stoT_len m A V k
    by_cases hk : k < A.length
    · have hki : (k : Int) < (A.length : Int) := by omega
      have hkV : k < V.length := by omega
      obtain ⟨j, hj, hjm⟩ := in_at h3 hk
      have hs : (stoT m A V k).set j (V.getD k 0) = stoT m A V (k + 1) := by rw [stoT, hj, Int.toNat_natCast]
      have hjl : j < (stoT m A V k).length := by omega
      repeat' (first | with_reducible first | refine kI (by kernel_rfl) ?_ | simp -implicitDefEqProofs (disch := omega) only [go_sem, Nat.reduceAdd, Nat.reduceSub, reduceCtorEq, Nat.reduceLT, Nat.reduceLeDiff, Nat.reduceEqDiff, ↓reduceIte, List.take_of_length_le, if_pos, if_neg, getD_exs, cnE, cnV, Tryz.ntmps201, Tryz.results201,  hki])
      refine DrawQ.any [([0, 1, 2, 3, 4, 5, 6, 7, 8, 9], 10)] [] [] (by kernel_rfl) ?_
      repeat' (first | with_reducible first | refine kI (by kernel_rfl) ?_ | simp -implicitDefEqProofs (disch := omega) only [go_sem, Nat.reduceAdd, Nat.reduceSub, reduceCtorEq, Nat.reduceLT, Nat.reduceLeDiff, Nat.reduceEqDiff, ↓reduceIte, List.take_of_length_le, if_pos, if_neg, getD_exs, cnE, cnV, Tryz.ntmps201, Tryz.results201,  getD_ints hk, getD_ints hkV, hj, hl, hjm, hs])
      exact ⟨A.length - (k + 1), by omega, hI0 _ _ ⟨k + 1, (), mixI rfl, hk, rfl⟩⟩
    · obtain rfl : k = A.length := by omega
      repeat' (first | with_reducible first | refine kI (by kernel_rfl) ?_ | refine kN (by kernel_rfl) ?_ | simp -implicitDefEqProofs (disch := omega) only [go_sem, Nat.reduceAdd, Nat.reduceSub, reduceCtorEq, Nat.reduceLT, Nat.reduceLeDiff, Nat.reduceEqDiff, ↓reduceIte, List.take_of_length_le, if_pos, if_neg, getD_exs, cnE, cnV, Tryz.ntmps201, Tryz.results201])
      rw [← hl]
      exact ret_il (i := 1) rfl
theorem can_put : CanCall Tryz.prog 201 := ⟨_, Tryz.func201, rfl, rfl⟩
theorem can_FillViewS : CanCall Tryz.prog 169 := ⟨_, Tryz.func169, rfl, rfl⟩
theorem can_CopyViewS : CanCall Tryz.prog 170 := ⟨_, Tryz.func170, rfl, rfl⟩
def PutV : Prop := ∀ (m : List Int) (v : Vi) (V : List Int), holdB m v = true → V.length = (offF v).length → OSpec Tryz.prog 201 [ints 0 m, .agg [i64 v.b, ints 0 v.sh, ints 0 v.st], ints 0 V] (fun n => .sl n (stoV m v V).length 0 (stoV m v V).length (stoV m v V).length) (fun _ => [stB (stoV m v V)])
def cpyO (m : List Int) (a b : Vi) : Option (List Int) := if cpyB m a b = true then some (stoV m a (tkn m (offF b))) else none
set_option maxHeartbeats 4000000 in
set_option maxRecDepth 100000 in
theorem o_CopyViewS {Sg : FuncId → Option (List AV → Option AV)} (hS : Sound Tryz.prog Sg) (hc : Sg 200 = some (F3 gCanC)) (hl : Sg 103 = some (F2 gLoadI)) (n1 : Sg 201 = none) (m : List Int) (a b : Vi) (h : mB2 m a b) (hpu : PutV) : OSpec Tryz.prog 170 [ints 0 m, .agg [i64 a.b, ints 0 a.sh, ints 0 a.st], .agg [i64 b.b, ints 0 b.sh, ints 0 b.st]] (icR (cpyO m a b)) (icN (cpyO m a b)) := by
  refine OSpec.ofR Tryz.func170 rfl (vc3_sound Tryz.pf hS hS _ _ _ ?_)
  have q1 := gCanC_eq h
  unfold cpyO
  cases e : cpyB m a b with
  | false =>
    rw [e] at q1
    rw [if_neg (by simp)]
    repeat' (first | with_reducible first | refine kI (by kernel_rfl) ?_ | refine kN (by kernel_rfl) ?_ | simp -implicitDefEqProofs (disch := omega) only [go_sem, Nat.reduceAdd, Nat.reduceSub, reduceCtorEq, Nat.reduceLT, Nat.reduceLeDiff, Nat.reduceEqDiff, ↓reduceIte, List.take_of_length_le, if_pos, if_neg, getD_exs, cnE, cnV, Tryz.ntmps170, Tryz.results170,  hc, q1])
    exact ret_ic0
  | true =>
    rw [e] at q1
    rw [if_pos rfl]
    obtain ⟨e1, e2, e3⟩ := cpyB_iff.1 e
    have q2 := gLoadI_eq e2
    have hlen : (tkn m (offF b)).length = (offF a).length := (tkn_len _ _).trans (len_off e3)
    generalize tkn m (offF b) = V at *
    repeat' (first | with_reducible first | refine kI (by kernel_rfl) ?_ | simp -implicitDefEqProofs (disch := omega) only [go_sem, Nat.reduceAdd, Nat.reduceSub, reduceCtorEq, Nat.reduceLT, Nat.reduceLeDiff, Nat.reduceEqDiff, ↓reduceIte, List.take_of_length_le, if_pos, if_neg, getD_exs, cnE, cnV, Tryz.ntmps170, Tryz.results170,  hc, q1])
    refine DrawQ.any2 [([0, 1, 2, 3, 4], 5, [])] [6, 7] [] (by kernel_rfl) ?_
    repeat' (first | with_reducible first | refine kI (by kernel_rfl) ?_ | simp -implicitDefEqProofs (disch := omega) only [go_sem, Nat.reduceAdd, Nat.reduceSub, reduceCtorEq, Nat.reduceLT, Nat.reduceLeDiff, Nat.reduceEqDiff, ↓reduceIte, List.take_of_length_le, if_pos, if_neg, getD_exs, cnE, cnV, Tryz.ntmps170, Tryz.results170,  hl, q2, n1, opQ_none])
    refine InlK_intro rfl rfl can_put ((hpu m a V e1 hlen).call (by simp only [go_sem, ints]) ?_)
    repeat' (first | with_reducible first | refine kI (by kernel_rfl) ?_ | simp -implicitDefEqProofs (disch := omega) only [go_sem, Nat.reduceAdd, Nat.reduceSub, reduceCtorEq, Nat.reduceLT, Nat.reduceLeDiff, Nat.reduceEqDiff, ↓reduceIte, List.take_of_length_le, if_pos, if_neg, getD_exs, cnE, cnV, Tryz.ntmps170, Tryz.results170])
    exact ret_ic (i := 2) rfl
end Go.Proofs.YtkmnepmnjpdpkaaGreatDoor
namespace Go.Proofs.YtkmnepmnjpdpkaaGreatDoor
open Go Go.Ev Go.RowKit Go.Ev.Enc Go.Pl

theorem can_copyBufferI : CanCall Tryz.prog 99 := ⟨_, Tryz.func99, rfl, rfl⟩
theorem can_copyBufferS : CanCall Tryz.prog 59 := ⟨_, Tryz.func59, rfl, rfl⟩
def CpBS : Prop := ∀ B : Bf, bfM B → OSpec Tryz.prog 59 [bfA 0 B] (bfR B) (bfN B)
def addB (B : Bf) (x : Ex) : Bf := ⟨B.c, B.e ++ [x]⟩
end Go.Proofs.YtkmnepmnjpdpkaaGreatDoor
