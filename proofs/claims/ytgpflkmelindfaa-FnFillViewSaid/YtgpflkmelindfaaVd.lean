/- Contracts of functions that the laws of this seat call. -/
import Derived.Test.YtgpflkmelindfaaVc
set_option linter.all false
namespace Go.Proofs.Ytgpflkmelindfaa
open Go Go.Ev Go.RowKit Go.Ev.Enc Go.Pl

theorem evTwo_eq (g : Int → Int → Int) (k k' : IntKind) (a b : Int) : evTwo g [.int k a, .int k' b] = some (.int k (g a b)) := rfl
attribute [go_sem] evTwo_eq
/-- a range: start, stop, step -/
structure Rg where
  a : Int
  z : Int
  s : Int
  deriving DecidableEq
instance : Enc Rg where
  enc t x := .agg [.int .i64 x.a, .int .i64 x.z, .int .i64 x.s]
  dec | .agg [x, y, z] => (dec x).bind fun n => (dec y).bind fun a => (dec z).map fun b => ⟨n, a, b⟩
      | _ => none
  ok x a := by
    constructor
    · intro h
      split at h
      · simp only [Option.bind_eq_some_iff, Option.map_eq_some_iff] at h
        obtain ⟨n, hn, p, hp, q, hq, rfl⟩ := h
        rw [(ok _ _).1 hn, (ok _ _).1 hp, (ok _ _).1 hq]; rfl
      · simp at h
    · rintro rfl
      show ((dec (enc 0 a.a)).bind fun n => (dec (enc 0 a.z)).bind fun p => (dec (enc 0 a.s)).map fun q => (⟨n, p, q⟩ : Rg)) = some a
      rw [(ok _ a.a).2 rfl, (ok _ a.z).2 rfl, (ok _ a.s).2 rfl]; rfl
  own a := .agg _ (by
    intro x hx
    simp only [List.mem_cons, List.not_mem_nil, or_false] at hx
    rcases hx with rfl | rfl | rfl
    · exact own a.a
    · exact own a.z
    · exact own a.s)
/-- a slice: from, to, by, and whether it has the ends -/
structure Sl where
  f : Int
  t : Int
  s : Int
  hf : Bool
  ht : Bool
  deriving DecidableEq
instance : Enc Sl where
  enc t x := .agg [.int .i64 x.f, .int .i64 x.t, .int .i64 x.s, .bool x.hf, .bool x.ht]
  dec | .agg [x, y, z, p, q] => (dec x).bind fun n => (dec y).bind fun a => (dec z).bind fun b => (dec p).bind fun c => (dec q).map fun d => ⟨n, a, b, c, d⟩
      | _ => none
  ok x a := by
    constructor
    · intro h
      split at h
      · simp only [Option.bind_eq_some_iff, Option.map_eq_some_iff] at h
        obtain ⟨n, hn, p, hp, q, hq, u, hu, v, hv, rfl⟩ := h
        rw [(ok _ _).1 hn, (ok _ _).1 hp, (ok _ _).1 hq, (ok _ _).1 hu, (ok _ _).1 hv]; rfl
      · simp at h
    · rintro rfl
      show ((dec (enc 0 a.f)).bind fun n => (dec (enc 0 a.t)).bind fun p => (dec (enc 0 a.s)).bind fun q => (dec (enc 0 a.hf)).bind fun u => (dec (enc 0 a.ht)).map fun v => (⟨n, p, q, u, v⟩ : Sl)) = some a
      rw [(ok _ a.f).2 rfl, (ok _ a.t).2 rfl, (ok _ a.s).2 rfl, (ok _ a.hf).2 rfl, (ok _ a.ht).2 rfl]; rfl
  own a := .agg _ (by
    intro x hx
    simp only [List.mem_cons, List.not_mem_nil, or_false] at hx
    rcases hx with rfl | rfl | rfl | rfl | rfl
    · exact own a.f
    · exact own a.t
    · exact own a.s
    · exact own a.hf
    · exact own a.ht)
theorem enc_rg (t : Nat) (x : Rg) : (enc t x : AV) = .agg [.int .i64 x.a, .int .i64 x.z, .int .i64 x.s] := rfl
theorem enc_sl' (t : Nat) (x : Sl) : (enc t x : AV) = .agg [.int .i64 x.f, .int .i64 x.t, .int .i64 x.s, .bool x.hf, .bool x.ht] := rfl
theorem dec_rg (a b c : Int) : (dec (.agg [.int .i64 a, .int .i64 b, .int .i64 c]) : Option Rg) = some ⟨a, b, c⟩ := (ok _ _).2 rfl
theorem dec_sl' (a b c : Int) (p q : Bool) : (dec (.agg [.int .i64 a, .int .i64 b, .int .i64 c, .bool p, .bool q]) : Option Sl) = some ⟨a, b, c, p, q⟩ := (ok _ _).2 rfl
theorem rg_eta (x : Rg) : (⟨x.a, x.z, x.s⟩ : Rg) = x := rfl
theorem sl_eta (x : Sl) : (⟨x.f, x.t, x.s, x.hf, x.ht⟩ : Sl) = x := rfl
attribute [go_sem] enc_rg enc_sl' dec_rg dec_sl' rg_eta sl_eta

/-! ### numbers of a range -/
def goesOn (z s x : Int) : Prop := (0 < s ∧ x < z) ∨ (s < 0 ∧ z < x)
instance (z s x : Int) : Decidable (goesOn z s x) := by unfold goesOn; infer_instance
def numL (z s : Int) : Nat → Int → List Int
  | 0, _ => []
  | n + 1, x => if goesOn z s x then x :: numL z s n (x + s) else []
def distR (z s x : Int) : Nat := if 0 < s then (z - x).toNat else (x - z).toNat
def numF (r : Rg) : List Int := numL r.z r.s (distR r.z r.s r.a) r.a
theorem numL_len (z s : Int) : ∀ n x, (numL z s n x).length ≤ n
  | 0, _ => Nat.le_refl _
  | n + 1, x => by
    unfold numL
    split
    · rw [List.length_cons]; have := numL_len z s n (x + s); omega
    · simp
theorem dist_step {z s x : Int} (h : goesOn z s x) : distR z s (x + s) < distR z s x := by
  unfold goesOn at h
  unfold distR
  split <;> omega
theorem dist_pos {z s x : Int} (h : goesOn z s x) : 0 < distR z s x := by
  unfold goesOn at h
  unfold distR
  split <;> omega
/-- more fuel does not matter -/
theorem numL_fuel {z s : Int} : ∀ n m x, distR z s x ≤ n → distR z s x ≤ m → numL z s n x = numL z s m x
  | 0, m, x, h, h' => by
    have hn : ¬ goesOn z s x := fun hg => by have := dist_pos hg; omega
    match m with
    | 0 => rfl
    | m + 1 => rw [numL, numL, if_neg hn]
  | n + 1, 0, x, h, h' => by
    have hn : ¬ goesOn z s x := fun hg => by have := dist_pos hg; omega
    rw [numL, numL, if_neg hn]
  | n + 1, m + 1, x, h, h' => by
    rw [numL, numL]
    split
    · rename_i hg
      have := dist_step hg
      rw [numL_fuel n m (x + s) (by omega) (by omega)]
    · rfl
theorem numF_on {z s x : Int} (h : goesOn z s x) : numL z s (distR z s x) x = x :: numL z s (distR z s (x + s)) (x + s) := by
  have h1 := dist_step h
  obtain ⟨n, hn⟩ : ∃ n, distR z s x = n + 1 := ⟨distR z s x - 1, by have := dist_pos h; omega⟩
  rw [hn, numL, if_pos h, numL_fuel n (distR z s (x + s)) (x + s) (by omega) (Nat.le_refl _)]
theorem numF_off {z s x : Int} (h : ¬ goesOn z s x) : numL z s (distR z s x) x = [] := by
  cases hn : distR z s x with
  | zero => rfl
  | succ n => rw [numL, if_neg h]
def rgB (r : Rg) : Prop := (-1000 ≤ r.a ∧ r.a ≤ 1000) ∧ (-1000 ≤ r.z ∧ r.z ≤ 1000) ∧ (-1000 ≤ r.s ∧ r.s ≤ 1000)
instance (r : Rg) : Decidable (rgB r) := by unfold rgB; infer_instance
theorem numF_len {r : Rg} (h : rgB r) : (numF r).length ≤ 2000 := by
  unfold rgB at h
  refine Nat.le_trans (numL_len _ _ _ _) ?_
  unfold distR
  split <;> omega
def gNumbers (r : Rg) : Option (List Int) := gd (rgB r) (numF r)
theorem gNumbers_eq {r : Rg} (h : rgB r) : gNumbers r = some (numF r) := gd_eq h
set_option maxHeartbeats 4000000 in
set_option maxRecDepth 100000 in
theorem spec_numbers {Sg : FuncId → Option (List AV → Option AV)} (hS : Sound Try.prog Sg) : ∀ a r, F1 gNumbers a = some r → CSpec Try.prog 119 a r := by
  refine F1_spec ?_
  intro g r hr
  obtain ⟨hb, rfl⟩ := gd_some hr
  refine CSpec.intro Try.func119 rfl (own _) (vc3_sound Try.pf hS hS _ _ _ ?_)
  have hb' := hb
  obtain ⟨⟨b1, b2⟩, ⟨b3, b4⟩, b5, b6⟩ := hb'
  have hl := numF_len hb
  have hd0 : distR g.z g.s g.a ≤ 2000 := by unfold distR; split <;> omega
  repeat' (first | with_reducible first | refine kI (by kernel_rfl) ?_ | refine kN (by kernel_rfl) ?_ | (first | refine kB1 ?_ ?_ | refine kB2 ?_ ?_) <;> intro hp | (first | refine kD1 ?_ ?_ | refine kD2 ?_ ?_ | refine kS1 ?_ ?_ | refine kS2 ?_ ?_) <;> intro hp <;> try simp only [hp] | simp -implicitDefEqProofs (disch := omega) only [go_sem, Nat.reduceAdd, Nat.reduceSub, reduceCtorEq, Nat.reduceLT, Nat.reduceLeDiff, Nat.reduceEqDiff, Nat.reduceMul, Int.reduceToNat, ↓reduceIte, List.take_of_length_le, if_pos, if_neg, List.getElem?_set_self, List.set_set, cnE, cnV, Try.ntmps119, Try.results119])
  refine LoopQ.mix (fun t0 L0 nn ss => ∃ (k : Nat) (y : Int) (q : List Int) (_ : Unit), (∃ x : Nat → AV, ss = ⟨mixL 0 (.k :: .k :: .k :: .v (.sl 1 k 0 k k) :: .v (i64 y) :: .k :: .k :: .k :: .s :: .s :: .s :: .s :: .s :: .s :: .s :: .s :: .s :: .s :: .s :: .s :: .s :: .s :: .s :: .s :: .s :: .s :: .s :: .s :: .s :: .s :: .s :: .s :: .s :: .s :: .s :: .s :: .k :: []) t0 x, [⟨3, [.agg [i64 g.a, i64 g.z, i64 g.s]]⟩, ⟨1, q.map fun n => .int .i64 n⟩]⟩) ∧ (q.length = k) ∧ (k + distR g.z g.s y ≤ 2000) ∧ (-2000 ≤ y ∧ y ≤ 2000) ∧ (q ++ numL g.z g.s (distR g.z g.s y) y = numF g) ∧ nn = distR g.z g.s y + 1) ?_ ?_
  · exact ⟨_, ⟨0, g.a, [], (), mixJ rfl (rfl), rfl, by omega, ⟨by omega, by omega⟩, rfl, rfl⟩⟩
  · rintro I0 hI0 nn ss ⟨k, y, q, _, ⟨x, rfl⟩, m1, m2, ⟨m3, m4⟩, m5, rfl⟩
    by_cases hg : goesOn g.z g.s y
    · rw [numF_on hg] at m5
      have h1 := dist_step hg
      have hw : IntKind.i64.wrap (y + g.s) = y + g.s := wrap_in (by omega)
      have h5 : (q ++ [y]) ++ numL g.z g.s (distR g.z g.s (y + g.s)) (y + g.s) = numF g := by rw [← m5]; simp
      have h6 : -2000 ≤ y + g.s ∧ y + g.s ≤ 2000 := by unfold goesOn at hg; omega
      rcases hg with ⟨s1, s2⟩ | ⟨s1, s2⟩
      · repeat' (first | with_reducible first | refine kI (by kernel_rfl) ?_ | refine kN (by kernel_rfl) ?_ | (first | refine kB1 ?_ ?_ | refine kB2 ?_ ?_) <;> intro hp | (first | refine kD1 ?_ ?_ | refine kD2 ?_ ?_ | refine kS1 ?_ ?_ | refine kS2 ?_ ?_) <;> intro hp <;> try simp only [hp] | simp -implicitDefEqProofs (disch := omega) only [go_sem, Nat.reduceAdd, Nat.reduceSub, reduceCtorEq, Nat.reduceLT, Nat.reduceLeDiff, Nat.reduceEqDiff, Nat.reduceMul, Int.reduceToNat, ↓reduceIte, List.take_of_length_le, if_pos, if_neg, List.getElem?_set_self, List.set_set, cnE, cnV, Try.ntmps119, Try.results119,  s1, s2, hw])
        exact ⟨distR g.z g.s (y + g.s) + 1, by omega, hI0 _ _ ⟨k + 1, y + g.s, q ++ [y], (), mixI rfl, by simp [m1], by omega, h6, h5, rfl⟩⟩
      · have s3 : ¬ 0 < g.s := by omega
        repeat' (first | with_reducible first | refine kI (by kernel_rfl) ?_ | refine kN (by kernel_rfl) ?_ | (first | refine kB1 ?_ ?_ | refine kB2 ?_ ?_) <;> intro hp | (first | refine kD1 ?_ ?_ | refine kD2 ?_ ?_ | refine kS1 ?_ ?_ | refine kS2 ?_ ?_) <;> intro hp <;> try simp only [hp] | simp -implicitDefEqProofs (disch := omega) only [go_sem, Nat.reduceAdd, Nat.reduceSub, reduceCtorEq, Nat.reduceLT, Nat.reduceLeDiff, Nat.reduceEqDiff, Nat.reduceMul, Int.reduceToNat, ↓reduceIte, List.take_of_length_le, if_pos, if_neg, List.getElem?_set_self, List.set_set, cnE, cnV, Try.ntmps119, Try.results119,  s1, s2, s3, hw])
        exact ⟨distR g.z g.s (y + g.s) + 1, by omega, hI0 _ _ ⟨k + 1, y + g.s, q ++ [y], (), mixI rfl, by simp [m1], by omega, h6, h5, rfl⟩⟩
    · rw [numF_off hg, List.append_nil] at m5
      have hg' := hg
      unfold goesOn at hg'
      rw [not_or] at hg'
      repeat' (first | with_reducible first | refine kI (by kernel_rfl) ?_ | refine kN (by kernel_rfl) ?_ | (first | refine kB1 ?_ ?_ | refine kB2 ?_ ?_) <;> intro hp | (first | refine kD1 ?_ ?_ | refine kD2 ?_ ?_ | refine kS1 ?_ ?_ | refine kS2 ?_ ?_) <;> intro hp <;> try simp only [hp] | simp -implicitDefEqProofs (disch := omega) only [go_sem, Nat.reduceAdd, Nat.reduceSub, reduceCtorEq, Nat.reduceLT, Nat.reduceLeDiff, Nat.reduceEqDiff, Nat.reduceMul, Int.reduceToNat, ↓reduceIte, List.take_of_length_le, if_pos, if_neg, List.getElem?_set_self, List.set_set, cnE, cnV, Try.ntmps119, Try.results119])
      all_goals rw [m5]
/-! ### indices of a slice -/
def bndF (n i s : Int) : Int :=
  let lo := if s < 0 then -1 else 0
  let hi := if s < 0 then n - 1 else n
  let j := if i < 0 then i + n else i
  let m := if j > lo then j else lo
  if m < hi then m else hi
theorem bndF_in {n i s : Int} (h : 0 ≤ n) : -1 ≤ bndF n i s ∧ bndF n i s ≤ n := by
  unfold bndF
  simp only
  split <;> split <;> split <;> (try split) <;> omega
def gBound (n i s : Int) : Option Int := gd ((0 ≤ n ∧ n ≤ 1000) ∧ (-1000 ≤ i ∧ i ≤ 1000)) (bndF n i s)
theorem gBound_eq {n i s : Int} (h : (0 ≤ n ∧ n ≤ 1000) ∧ (-1000 ≤ i ∧ i ≤ 1000)) : gBound n i s = some (bndF n i s) := gd_eq h
set_option maxHeartbeats 4000000 in
set_option maxRecDepth 100000 in
theorem spec_bound {Sg : FuncId → Option (List AV → Option AV)} (hS : Sound Try.prog Sg) : ∀ a r, F3 gBound a = some r → CSpec Try.prog 151 a r := by
  refine F3_spec ?_
  intro n i s r hr
  obtain ⟨⟨⟨h1, h2⟩, h3, h4⟩, rfl⟩ := gd_some hr
  refine CSpec.intro Try.func151 rfl (own _) (vc3_sound Try.pf hS hS _ _ _ ?_)
  have w1 : IntKind.i64.wrap (n - 1) = n - 1 := wrap_in (by omega)
  have w2 : IntKind.i64.wrap (i + n) = i + n := wrap_in (by omega)
  unfold bndF
  by_cases c1 : s < 0
  · by_cases c2 : i < 0
    · repeat' (first | with_reducible first | refine kI (by kernel_rfl) ?_ | refine kN (by kernel_rfl) ?_ | (first | refine kB1 ?_ ?_ | refine kB2 ?_ ?_) <;> intro hp | (first | refine kD1 ?_ ?_ | refine kD2 ?_ ?_ | refine kS1 ?_ ?_ | refine kS2 ?_ ?_) <;> intro hp <;> try simp only [hp] | simp -implicitDefEqProofs (disch := omega) only [go_sem, Nat.reduceAdd, Nat.reduceSub, reduceCtorEq, Nat.reduceLT, Nat.reduceLeDiff, Nat.reduceEqDiff, Nat.reduceMul, Int.reduceToNat, ↓reduceIte, List.take_of_length_le, if_pos, if_neg, List.getElem?_set_self, List.set_set, cnE, cnV, Try.ntmps151, Try.results151,  c1, c2, w1, w2])
    · repeat' (first | with_reducible first | refine kI (by kernel_rfl) ?_ | refine kN (by kernel_rfl) ?_ | (first | refine kB1 ?_ ?_ | refine kB2 ?_ ?_) <;> intro hp | (first | refine kD1 ?_ ?_ | refine kD2 ?_ ?_ | refine kS1 ?_ ?_ | refine kS2 ?_ ?_) <;> intro hp <;> try simp only [hp] | simp -implicitDefEqProofs (disch := omega) only [go_sem, Nat.reduceAdd, Nat.reduceSub, reduceCtorEq, Nat.reduceLT, Nat.reduceLeDiff, Nat.reduceEqDiff, Nat.reduceMul, Int.reduceToNat, ↓reduceIte, List.take_of_length_le, if_pos, if_neg, List.getElem?_set_self, List.set_set, cnE, cnV, Try.ntmps151, Try.results151,  c1, c2, w1])
  · by_cases c2 : i < 0
    · repeat' (first | with_reducible first | refine kI (by kernel_rfl) ?_ | refine kN (by kernel_rfl) ?_ | (first | refine kB1 ?_ ?_ | refine kB2 ?_ ?_) <;> intro hp | (first | refine kD1 ?_ ?_ | refine kD2 ?_ ?_ | refine kS1 ?_ ?_ | refine kS2 ?_ ?_) <;> intro hp <;> try simp only [hp] | simp -implicitDefEqProofs (disch := omega) only [go_sem, Nat.reduceAdd, Nat.reduceSub, reduceCtorEq, Nat.reduceLT, Nat.reduceLeDiff, Nat.reduceEqDiff, Nat.reduceMul, Int.reduceToNat, ↓reduceIte, List.take_of_length_le, if_pos, if_neg, List.getElem?_set_self, List.set_set, cnE, cnV, Try.ntmps151, Try.results151,  c1, c2, w2])
    · repeat' (first | with_reducible first | refine kI (by kernel_rfl) ?_ | refine kN (by kernel_rfl) ?_ | (first | refine kB1 ?_ ?_ | refine kB2 ?_ ?_) <;> intro hp | (first | refine kD1 ?_ ?_ | refine kD2 ?_ ?_ | refine kS1 ?_ ?_ | refine kS2 ?_ ?_) <;> intro hp <;> try simp only [hp] | simp -implicitDefEqProofs (disch := omega) only [go_sem, Nat.reduceAdd, Nat.reduceSub, reduceCtorEq, Nat.reduceLT, Nat.reduceLeDiff, Nat.reduceEqDiff, Nat.reduceMul, Int.reduceToNat, ↓reduceIte, List.take_of_length_le, if_pos, if_neg, List.getElem?_set_self, List.set_set, cnE, cnV, Try.ntmps151, Try.results151,  c1, c2])
def indR (n : Int) (s : Sl) : Rg := ⟨if s.hf = true then bndF n s.f s.s else if s.s < 0 then n - 1 else 0, if s.ht = true then bndF n s.t s.s else if s.s < 0 then -1 else n, s.s⟩
def indF (n : Int) (s : Sl) : List Int := numF (indR n s)
def slB (s : Sl) : Prop := (-500 ≤ s.f ∧ s.f ≤ 500) ∧ (-500 ≤ s.t ∧ s.t ≤ 500) ∧ (-500 ≤ s.s ∧ s.s ≤ 500)
instance (s : Sl) : Decidable (slB s) := by unfold slB; infer_instance
theorem indR_b {n : Int} {s : Sl} (h : 0 ≤ n ∧ n ≤ 100) (hs : slB s) : rgB (indR n s) := by
  obtain ⟨_, _, b5, b6⟩ := hs
  have h1 := bndF_in (n := n) (i := s.f) (s := s.s) h.1
  have h2 := bndF_in (n := n) (i := s.t) (s := s.s) h.1
  unfold rgB indR
  simp only
  refine ⟨?_, ?_, by omega, by omega⟩
  · split
    · omega
    · split <;> omega
  · split
    · omega
    · split <;> omega
def gIndices (n : Int) (s : Sl) : Option (List Int) := gd ((0 ≤ n ∧ n ≤ 100) ∧ slB s) (indF n s)
theorem gIndices_eq {n : Int} {s : Sl} (h : (0 ≤ n ∧ n ≤ 100) ∧ slB s) : gIndices n s = some (indF n s) := gd_eq h
set_option maxHeartbeats 4000000 in
set_option maxRecDepth 100000 in
theorem spec_indices {Sg : FuncId → Option (List AV → Option AV)} (hS : Sound Try.prog Sg) (hb : Sg 151 = some (F3 gBound)) (hn : Sg 119 = some (F1 gNumbers)) : ∀ a r, F2 gIndices a = some r → CSpec Try.prog 127 a r := by
  refine F2_spec ?_
  intro n s r hr
  obtain ⟨⟨⟨h1, h2⟩, hs⟩, rfl⟩ := gd_some hr
  refine CSpec.intro Try.func127 rfl (own _) (vc3_sound Try.pf hS hS _ _ _ ?_)
  have q0 := gNumbers_eq (indR_b ⟨h1, h2⟩ hs)
  obtain ⟨⟨b1, b2⟩, ⟨b3, b4⟩, b5, b6⟩ := hs
  have q1 := gBound_eq (n := n) (i := s.f) (s := s.s) ⟨⟨by omega, by omega⟩, by omega, by omega⟩
  have q2 := gBound_eq (n := n) (i := s.t) (s := s.s) ⟨⟨by omega, by omega⟩, by omega, by omega⟩
  have w1 : IntKind.i64.wrap (n - 1) = n - 1 := wrap_in (by omega)
  have hI : indF n s = numF (indR n s) := rfl
  rw [hI]
  generalize hN : numF (indR n s) = N at q0 ⊢
  unfold indR at q0
  by_cases c1 : s.s < 0
  · rw [if_pos c1, if_pos c1] at q0
    cases e1 : s.hf <;> cases e2 : s.ht <;> rw [e1, e2] at q0
    · rw [if_neg (by simp), if_neg (by simp)] at q0
      repeat' (first | with_reducible first | refine kI (by kernel_rfl) ?_ | refine kN (by kernel_rfl) ?_ | (first | refine kB1 ?_ ?_ | refine kB2 ?_ ?_) <;> intro hp | (first | refine kD1 ?_ ?_ | refine kD2 ?_ ?_ | refine kS1 ?_ ?_ | refine kS2 ?_ ?_) <;> intro hp <;> try simp only [hp] | simp -implicitDefEqProofs (disch := omega) only [go_sem, Nat.reduceAdd, Nat.reduceSub, reduceCtorEq, Nat.reduceLT, Nat.reduceLeDiff, Nat.reduceEqDiff, Nat.reduceMul, Int.reduceToNat, ↓reduceIte, List.take_of_length_le, if_pos, if_neg, List.getElem?_set_self, List.set_set, cnE, cnV, Try.ntmps127, Try.results127,  c1, w1, e1, e2, hb, q1, q2, hn, q0])
    · rw [if_neg (by simp), if_pos rfl] at q0
      repeat' (first | with_reducible first | refine kI (by kernel_rfl) ?_ | refine kN (by kernel_rfl) ?_ | (first | refine kB1 ?_ ?_ | refine kB2 ?_ ?_) <;> intro hp | (first | refine kD1 ?_ ?_ | refine kD2 ?_ ?_ | refine kS1 ?_ ?_ | refine kS2 ?_ ?_) <;> intro hp <;> try simp only [hp] | simp -implicitDefEqProofs (disch := omega) only [go_sem, Nat.reduceAdd, Nat.reduceSub, reduceCtorEq, Nat.reduceLT, Nat.reduceLeDiff, Nat.reduceEqDiff, Nat.reduceMul, Int.reduceToNat, ↓reduceIte, List.take_of_length_le, if_pos, if_neg, List.getElem?_set_self, List.set_set, cnE, cnV, Try.ntmps127, Try.results127,  c1, w1, e1, e2, hb, q1, q2, hn, q0])
    · rw [if_pos rfl, if_neg (by simp)] at q0
      repeat' (first | with_reducible first | refine kI (by kernel_rfl) ?_ | refine kN (by kernel_rfl) ?_ | (first | refine kB1 ?_ ?_ | refine kB2 ?_ ?_) <;> intro hp | (first | refine kD1 ?_ ?_ | refine kD2 ?_ ?_ | refine kS1 ?_ ?_ | refine kS2 ?_ ?_) <;> intro hp <;> try simp only [hp] | simp -implicitDefEqProofs (disch := omega) only [go_sem, Nat.reduceAdd, Nat.reduceSub, reduceCtorEq, Nat.reduceLT, Nat.reduceLeDiff, Nat.reduceEqDiff, Nat.reduceMul, Int.reduceToNat, ↓reduceIte, List.take_of_length_le, if_pos, if_neg, List.getElem?_set_self, List.set_set, cnE, cnV, Try.ntmps127, Try.results127,  c1, w1, e1, e2, hb, q1, q2, hn, q0])
    · rw [if_pos rfl, if_pos rfl] at q0
      repeat' (first | with_reducible first | refine kI (by kernel_rfl) ?_ | refine kN (by kernel_rfl) ?_ | (first | refine kB1 ?_ ?_ | refine kB2 ?_ ?_) <;> intro hp | (first | refine kD1 ?_ ?_ | refine kD2 ?_ ?_ | refine kS1 ?_ ?_ | refine kS2 ?_ ?_) <;> intro hp <;> try simp only [hp] | simp -implicitDefEqProofs (disch := omega) only [go_sem, Nat.reduceAdd, Nat.reduceSub, reduceCtorEq, Nat.reduceLT, Nat.reduceLeDiff, Nat.reduceEqDiff, Nat.reduceMul, Int.reduceToNat, ↓reduceIte, List.take_of_length_le, if_pos, if_neg, List.getElem?_set_self, List.set_set, cnE, cnV, Try.ntmps127, Try.results127,  c1, w1, e1, e2, hb, q1, q2, hn, q0])
  · rw [if_neg c1, if_neg c1] at q0
    cases e1 : s.hf <;> cases e2 : s.ht <;> rw [e1, e2] at q0
    · rw [if_neg (by simp), if_neg (by simp)] at q0
      repeat' (first | with_reducible first | refine kI (by kernel_rfl) ?_ | refine kN (by kernel_rfl) ?_ | (first | refine kB1 ?_ ?_ | refine kB2 ?_ ?_) <;> intro hp | (first | refine kD1 ?_ ?_ | refine kD2 ?_ ?_ | refine kS1 ?_ ?_ | refine kS2 ?_ ?_) <;> intro hp <;> try simp only [hp] | simp -implicitDefEqProofs (disch := omega) only [go_sem, Nat.reduceAdd, Nat.reduceSub, reduceCtorEq, Nat.reduceLT, Nat.reduceLeDiff, Nat.reduceEqDiff, Nat.reduceMul, Int.reduceToNat, ↓reduceIte, List.take_of_length_le, if_pos, if_neg, List.getElem?_set_self, List.set_set, cnE, cnV, Try.ntmps127, Try.results127,  c1, e1, e2, hb, q1, q2, hn, q0])
    · rw [if_neg (by simp), if_pos rfl] at q0
      repeat' (first | with_reducible first | refine kI (by kernel_rfl) ?_ | refine kN (by kernel_rfl) ?_ | (first | refine kB1 ?_ ?_ | refine kB2 ?_ ?_) <;> intro hp | (first | refine kD1 ?_ ?_ | refine kD2 ?_ ?_ | refine kS1 ?_ ?_ | refine kS2 ?_ ?_) <;> intro hp <;> try simp only [hp] | simp -implicitDefEqProofs (disch := omega) only [go_sem, Nat.reduceAdd, Nat.reduceSub, reduceCtorEq, Nat.reduceLT, Nat.reduceLeDiff, Nat.reduceEqDiff, Nat.reduceMul, Int.reduceToNat, ↓reduceIte, List.take_of_length_le, if_pos, if_neg, List.getElem?_set_self, List.set_set, cnE, cnV, Try.ntmps127, Try.results127,  c1, e1, e2, hb, q1, q2, hn, q0])
    · rw [if_pos rfl, if_neg (by simp)] at q0
      repeat' (first | with_reducible first | refine kI (by kernel_rfl) ?_ | refine kN (by kernel_rfl) ?_ | (first | refine kB1 ?_ ?_ | refine kB2 ?_ ?_) <;> intro hp | (first | refine kD1 ?_ ?_ | refine kD2 ?_ ?_ | refine kS1 ?_ ?_ | refine kS2 ?_ ?_) <;> intro hp <;> try simp only [hp] | simp -implicitDefEqProofs (disch := omega) only [go_sem, Nat.reduceAdd, Nat.reduceSub, reduceCtorEq, Nat.reduceLT, Nat.reduceLeDiff, Nat.reduceEqDiff, Nat.reduceMul, Int.reduceToNat, ↓reduceIte, List.take_of_length_le, if_pos, if_neg, List.getElem?_set_self, List.set_set, cnE, cnV, Try.ntmps127, Try.results127,  c1, e1, e2, hb, q1, q2, hn, q0])
    · rw [if_pos rfl, if_pos rfl] at q0
      repeat' (first | with_reducible first | refine kI (by kernel_rfl) ?_ | refine kN (by kernel_rfl) ?_ | (first | refine kB1 ?_ ?_ | refine kB2 ?_ ?_) <;> intro hp | (first | refine kD1 ?_ ?_ | refine kD2 ?_ ?_ | refine kS1 ?_ ?_ | refine kS2 ?_ ?_) <;> intro hp <;> try simp only [hp] | simp -implicitDefEqProofs (disch := omega) only [go_sem, Nat.reduceAdd, Nat.reduceSub, reduceCtorEq, Nat.reduceLT, Nat.reduceLeDiff, Nat.reduceEqDiff, Nat.reduceMul, Int.reduceToNat, ↓reduceIte, List.take_of_length_le, if_pos, if_neg, List.getElem?_set_self, List.set_set, cnE, cnV, Try.ntmps127, Try.results127,  c1, e1, e2, hb, q1, q2, hn, q0])
/-- the range in normal form -/
def nrmF (l : List Int) : Rg :=
  if l.length = 0 then ⟨0, 0, 1⟩ else if l.length = 1 then ⟨l.getD 0 0, l.getD 0 0 + 1, 1⟩
  else ⟨l.getD 0 0, if l.getD 1 0 - l.getD 0 0 < 0 then l.getD (l.length - 1) 0 - 1 else l.getD (l.length - 1) 0 + 1, l.getD 1 0 - l.getD 0 0⟩
def smallL (m : Int) (l : List Int) : Prop := ∀ x ∈ l, -m ≤ x ∧ x ≤ m
instance (m : Int) (l : List Int) : Decidable (smallL m l) := by unfold smallL; infer_instance
theorem smallL_at {m : Int} {l : List Int} (h : smallL m l) {k : Nat} (hk : k < l.length) : -m ≤ l.getD k 0 ∧ l.getD k 0 ≤ m := h _ (gmem hk)
def gNormal (l : List Int) : Option Rg := gd (l.length < 4294967296 ∧ smallL 100000 l) (nrmF l)
theorem gNormal_eq {l : List Int} (h : l.length < 4294967296 ∧ smallL 100000 l) : gNormal l = some (nrmF l) := gd_eq h
set_option maxHeartbeats 4000000 in
set_option maxRecDepth 100000 in
theorem spec_normal {Sg : FuncId → Option (List AV → Option AV)} (hS : Sound Try.prog Sg) : ∀ a r, F1 gNormal a = some r → CSpec Try.prog 85 a r := by
  refine F1_spec ?_
  intro l r hr
  obtain ⟨⟨h1, h2⟩, rfl⟩ := gd_some hr
  refine CSpec.intro Try.func85 rfl (own _) (vc3_sound Try.pf hS hS _ _ _ ?_)
  unfold nrmF
  by_cases c0 : l.length = 0
  · rw [if_pos c0]
    have c0' : ((l.length : Int) == 0) = true := beq_t (by omega)
    repeat' (first | with_reducible first | refine kI (by kernel_rfl) ?_ | refine kN (by kernel_rfl) ?_ | (first | refine kB1 ?_ ?_ | refine kB2 ?_ ?_) <;> intro hp | (first | refine kD1 ?_ ?_ | refine kD2 ?_ ?_ | refine kS1 ?_ ?_ | refine kS2 ?_ ?_) <;> intro hp <;> try simp only [hp] | simp -implicitDefEqProofs (disch := omega) only [go_sem, Nat.reduceAdd, Nat.reduceSub, reduceCtorEq, Nat.reduceLT, Nat.reduceLeDiff, Nat.reduceEqDiff, Nat.reduceMul, Int.reduceToNat, ↓reduceIte, List.take_of_length_le, if_pos, if_neg, List.getElem?_set_self, List.set_set, cnE, cnV, Try.ntmps85, Try.results85,  c0'])
  · rw [if_neg c0]
    have c0' : ((l.length : Int) == 0) = false := beq_f (by omega)
    by_cases c1 : l.length = 1
    · rw [if_pos c1]
      have c1' : ((l.length : Int) == 1) = true := beq_t (by omega)
      have hb := smallL_at h2 (k := 0) (by omega)
      have w1 : IntKind.i64.wrap (l.getD 0 0 + 1) = l.getD 0 0 + 1 := wrap_in (by omega)
      repeat' (first | with_reducible first | refine kI (by kernel_rfl) ?_ | refine kN (by kernel_rfl) ?_ | (first | refine kB1 ?_ ?_ | refine kB2 ?_ ?_) <;> intro hp | (first | refine kD1 ?_ ?_ | refine kD2 ?_ ?_ | refine kS1 ?_ ?_ | refine kS2 ?_ ?_) <;> intro hp <;> try simp only [hp] | simp -implicitDefEqProofs (disch := omega) only [go_sem, Nat.reduceAdd, Nat.reduceSub, reduceCtorEq, Nat.reduceLT, Nat.reduceLeDiff, Nat.reduceEqDiff, Nat.reduceMul, Int.reduceToNat, ↓reduceIte, List.take_of_length_le, if_pos, if_neg, List.getElem?_set_self, List.set_set, cnE, cnV, Try.ntmps85, Try.results85,  c0', c1', w1])
    · rw [if_neg c1]
      have c1' : ((l.length : Int) == 1) = false := beq_f (by omega)
      have b0 := smallL_at h2 (k := 0) (by omega)
      have b1 := smallL_at h2 (k := 1) (by omega)
      have b2 := smallL_at h2 (k := l.length - 1) (by omega)
      have w1 : IntKind.i64.wrap (l.getD 1 0 - l.getD 0 0) = l.getD 1 0 - l.getD 0 0 := wrap_in (by omega)
      have w2 : IntKind.i64.wrap (l.getD (l.length - 1) 0 + 1) = l.getD (l.length - 1) 0 + 1 := wrap_in (by omega)
      have w3 : IntKind.i64.wrap (l.getD (l.length - 1) 0 - 1) = l.getD (l.length - 1) 0 - 1 := wrap_in (by omega)
      obtain ⟨n, hn⟩ : ∃ n : Nat, l.length = n + 1 := ⟨l.length - 1, by omega⟩
      have w4 : IntKind.i64.wrap ((l.length : Int) - 1) = ((l.length - 1 : Nat) : Int) := by rw [wrap_in (by omega)]; omega
      by_cases c2 : l.getD 1 0 - l.getD 0 0 < 0
      · rw [if_pos c2]
        repeat' (first | with_reducible first | refine kI (by kernel_rfl) ?_ | refine kN (by kernel_rfl) ?_ | (first | refine kB1 ?_ ?_ | refine kB2 ?_ ?_) <;> intro hp | (first | refine kD1 ?_ ?_ | refine kD2 ?_ ?_ | refine kS1 ?_ ?_ | refine kS2 ?_ ?_) <;> intro hp <;> try simp only [hp] | simp -implicitDefEqProofs (disch := omega) only [go_sem, Nat.reduceAdd, Nat.reduceSub, reduceCtorEq, Nat.reduceLT, Nat.reduceLeDiff, Nat.reduceEqDiff, Nat.reduceMul, Int.reduceToNat, ↓reduceIte, List.take_of_length_le, if_pos, if_neg, List.getElem?_set_self, List.set_set, cnE, cnV, Try.ntmps85, Try.results85,  c0', c1', w1, w2, w3, w4, c2])
      · rw [if_neg c2]
        repeat' (first | with_reducible first | refine kI (by kernel_rfl) ?_ | refine kN (by kernel_rfl) ?_ | (first | refine kB1 ?_ ?_ | refine kB2 ?_ ?_) <;> intro hp | (first | refine kD1 ?_ ?_ | refine kD2 ?_ ?_ | refine kS1 ?_ ?_ | refine kS2 ?_ ?_) <;> intro hp <;> try simp only [hp] | simp -implicitDefEqProofs (disch := omega) only [go_sem, Nat.reduceAdd, Nat.reduceSub, reduceCtorEq, Nat.reduceLT, Nat.reduceLeDiff, Nat.reduceEqDiff, Nat.reduceMul, Int.reduceToNat, ↓reduceIte, List.take_of_length_le, if_pos, if_neg, List.getElem?_set_self, List.set_set, cnE, cnV, Try.ntmps85, Try.results85,  c0', c1', w1, w2, w3, w4, c2])
end Go.Proofs.Ytgpflkmelindfaa
