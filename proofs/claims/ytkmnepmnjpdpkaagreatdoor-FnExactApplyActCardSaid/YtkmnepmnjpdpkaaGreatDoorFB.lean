/- Contracts of functions on lists, shapes and numbers that the laws of this seat call. -/
import Derived.Test.YtkmnepmnjpdpkaaGreatDoorFA
import Derived.Test.YtkmnepmnjpdpkaaGreatDoorEvC
set_option linter.all false
namespace Go.Proofs.YtkmnepmnjpdpkaaGreatDoor
open Go Go.Ev Go.RowKit Go.Ev.Enc Go.Pl

end Go.Proofs.YtkmnepmnjpdpkaaGreatDoor
namespace Go.Proofs.YtkmnepmnjpdpkaaGreatDoor
open Go Go.Ev Go.RowKit Go.Ev.Enc Go.Pl

theorem gTakenOf_eq {e l : List Int} (h : l.length < 4294967296 ∧ ∀ i, i < l.length → 0 ≤ l.getD i 0 ∧ l.getD i 0 < e.length) : gTakenOf e l = some (tkn e l) := gd_eq h
def unrR : List Int → Int → List Int
  | [], _ => []
  | d :: r, k => k.tmod d :: unrR r (k.tdiv d)
def unrF (s : List Int) (k : Int) : List Int := (unrR s.reverse k).reverse
theorem unrR_len : ∀ (s : List Int) (k : Int), (unrR s k).length = s.length
  | [], _ => rfl
  | d :: r, k => by simp [unrR, unrR_len r]
theorem unrF_len (s : List Int) (k : Int) : (unrF s k).length = s.length := by simp [unrF, unrR_len]
def divR : List Int → Int → Int
  | [], k => k
  | d :: r, k => divR r (k.tdiv d)
theorem unrR_app : ∀ (s t : List Int) (k : Int), unrR (s ++ t) k = unrR s k ++ unrR t (divR s k)
  | [], t, k => rfl
  | d :: r, t, k => by simp [unrR, divR, unrR_app r t]
theorem divR_app : ∀ (s t : List Int) (k : Int), divR (s ++ t) k = divR t (divR s k)
  | [], t, k => rfl
  | d :: r, t, k => by simp [divR, divR_app r t]
def gUnrank (s : List Int) (k : Int) : Option (List Int) := gd (s.length < 4294967296 ∧ (0 ≤ k ∧ k ≤ 9223372036854775807) ∧ ∀ i, i < s.length → 1 ≤ s.getD i 0) (unrF s k)
theorem gUnrank_eq {s : List Int} {k : Int} (h : s.length < 4294967296 ∧ (0 ≤ k ∧ k ≤ 9223372036854775807) ∧ ∀ i, i < s.length → 1 ≤ s.getD i 0) : gUnrank s k = some (unrF s k) := gd_eq h
theorem divR_nn : ∀ (s : List Int) (k : Int), (∀ d ∈ s, 1 ≤ d) → 0 ≤ k → 0 ≤ divR s k ∧ divR s k ≤ k
  | [], k, _, h => ⟨h, Int.le_refl _⟩
  | d :: r, k, hs, h => by
    have hd := hs d (by simp)
    have h1 : 0 ≤ k.tdiv d := Int.tdiv_nonneg h (by omega)
    have h2 : k.tdiv d ≤ k := by rw [Int.tdiv_eq_ediv_of_nonneg h]; exact Int.ediv_le_self _ h
    have := divR_nn r (k.tdiv d) (fun x hx => hs x (by simp [hx])) h1
    exact ⟨this.1, by unfold divR; omega⟩
def fromEnd (l : List Int) (m : Nat) : List Int := List.replicate m 0 ++ l.drop m
theorem fromEnd_len {l : List Int} {m : Nat} (h : m ≤ l.length) : (fromEnd l m).length = l.length := by simp [fromEnd]; omega
theorem fromEnd_set {l : List Int} {m : Nat} (h : m < l.length) : (fromEnd l (m + 1)).set m (l.getD m 0) = fromEnd l m := by
  unfold fromEnd
  rw [List.replicate_succ', List.append_assoc, List.set_append_right _ _ (by simp), drop_getD (d := 0) h]
  simp
theorem rev_drop {s : List Int} {m : Nat} (h : m < s.length) : s.reverse.take (s.length - m) = s.reverse.take (s.length - (m + 1)) ++ [s.getD m 0] := by
  rw [show s.length - m = (s.length - (m + 1)) + 1 by omega, List.take_succ_eq_append_getElem (by simp; omega)]
  congr 1
  simp [h]
  congr 1
  omega
theorem unrF_at {s : List Int} {k : Int} {m : Nat} (h : m < s.length) : (unrF s k).getD m 0 = (divR (s.reverse.take (s.length - (m + 1))) k).tmod (s.getD m 0) := by
  unfold unrF
  have hl := unrR_len s.reverse k
  rw [List.length_reverse] at hl
  have e : (unrR s.reverse k).reverse.getD m 0 = (unrR s.reverse k).getD (s.length - (m + 1)) 0 := by
    simp only [List.getD_eq_getElem?_getD]
    rw [List.getElem?_reverse (by omega), hl]
    congr 2; omega
  rw [e]
  have hs : s.reverse = s.reverse.take (s.length - (m + 1)) ++ s.getD m 0 :: s.reverse.drop (s.length - m) := by
    have h1 := rev_drop h
    have h2 := List.take_append_drop (s.length - m) s.reverse
    rw [h1, List.append_assoc] at h2
    exact h2.symm
  conv => lhs; rw [hs]
  rw [unrR_app]
  have hl2 : (unrR (s.reverse.take (s.length - (m + 1))) k).length = s.length - (m + 1) := by rw [unrR_len]; simp
  rw [List.getD_eq_getElem?_getD, List.getElem?_append_right (by omega), hl2, Nat.sub_self]
  rfl
set_option maxHeartbeats 2000000 in
set_option maxRecDepth 100000 in
theorem spec_unrank {Sg : FuncId → Option (List AV → Option AV)} (hS : Sound Tryz.prog Sg) : ∀ a r, F2 gUnrank a = some r → CSpec Tryz.prog 174 a r := by
  refine spec2 Tryz.func174 rfl Tryz.pf hS ?_
  intro s k r hr
  obtain ⟨⟨h1, ⟨h2, h2'⟩, h3⟩, rfl⟩ := gd_some hr
  have hall : ∀ m, ∀ d ∈ s.reverse.take m, 1 ≤ d := fun m d hd => by
    have := List.mem_of_mem_take hd
    rw [List.mem_reverse] at this
    obtain ⟨i, hi, rfl⟩ := List.mem_iff_getElem.1 this
    have := h3 i hi
    simpa [hi] using this
  have hul := unrF_len s k
  repeat' (first | with_reducible first | refine kI (by kernel_rfl) ?_ | simp -implicitDefEqProofs (disch := omega) only [go_sem, Nat.reduceAdd, Nat.reduceSub, reduceCtorEq, Nat.reduceLT, Nat.reduceLeDiff, Nat.reduceEqDiff, ↓reduceIte, List.take_of_length_le, if_pos, if_neg, getD_tsrs, fillA_len, fillA_at, fillA_full, evApp_z0, evApp_z1, evApp_z2, evApp_z3, cnE, Tryz.ntmps174, Tryz.results174])
  refine LoopQ.mix (fun t0 L0 nn ss => ∃ (m : Nat) (c : Int) (_ : Unit), (∃ x : Nat → AV, ss = ⟨mixL 0 (.k :: .v (i64 c) :: .k :: .k :: .k :: .k :: .v (i64 ((m : Nat) - 1)) :: .k :: .k :: .k :: .k :: .k :: .k :: .s :: .s :: .s :: .s :: .s :: .s :: .s :: .s :: .s :: .s :: .s :: .s :: .s :: .s :: .s :: .s :: .s :: .s :: .s :: .k :: []) t0 x, [⟨1, (fromEnd (unrF s k) m).map fun n => .int .i64 n⟩]⟩) ∧ (m ≤ s.length) ∧ (c = divR (s.reverse.take (s.length - m)) k) ∧ nn = m + 1) ?_ ?_
  · exact ⟨_, ⟨s.length, k, (), mixJ rfl (by rw [fromEnd, List.drop_of_length_le (by omega), List.append_nil]), Nat.le_refl _, by rw [Nat.sub_self]; rfl, rfl⟩⟩
  · rintro I0 hI0 n ss ⟨m, c, _, ⟨x, rfl⟩, g1, g2, rfl⟩
    have hc := divR_nn (s.reverse.take (s.length - m)) k (hall _) h2
    rw [← g2] at hc
    match m, g1 with
    | 0, _ =>
      have h0 : fromEnd (unrF s k) 0 = unrF s k := by simp [fromEnd]
      rw [h0]
      repeat' (first | with_reducible first | refine kI (by kernel_rfl) ?_ | simp -implicitDefEqProofs (disch := omega) only [go_sem, Nat.reduceAdd, Nat.reduceSub, reduceCtorEq, Nat.reduceLT, Nat.reduceLeDiff, Nat.reduceEqDiff, ↓reduceIte, List.take_of_length_le, if_pos, if_neg, getD_tsrs, fillA_len, fillA_at, fillA_full, evApp_z0, evApp_z1, evApp_z2, evApp_z3, cnE, Tryz.ntmps174, Tryz.results174])
    | m + 1, hm =>
      have h4 := h3 m hm
      have ht := fromEnd_len (l := unrF s k) (m := m + 1) (by omega)
      have hs := fromEnd_set (l := unrF s k) (m := m) (by omega)
      have hv := unrF_at (k := k) hm
      rw [← g2] at hv
      rw [hv] at hs
      have hd : divR (s.reverse.take (s.length - m)) k = c.tdiv (s.getD m 0) := by rw [rev_drop hm, divR_app, ← g2]; rfl
      have h5 : 0 ≤ c.tdiv (s.getD m 0) := Int.tdiv_nonneg hc.1 (by omega)
      have h6 : c.tdiv (s.getD m 0) ≤ c := by rw [Int.tdiv_eq_ediv_of_nonneg hc.1]; exact Int.ediv_le_self _ hc.1
      have e1 : (((m + 1 : Nat) : Int) - 1) = (m : Int) := by omega
      rw [e1]
      have h7 : ¬ s.getD m 0 = 0 := by omega
      repeat' (first | with_reducible first | refine kI (by kernel_rfl) ?_ | simp -implicitDefEqProofs (disch := omega) only [go_sem, Nat.reduceAdd, Nat.reduceSub, reduceCtorEq, Nat.reduceLT, Nat.reduceLeDiff, Nat.reduceEqDiff, ↓reduceIte, List.take_of_length_le, if_pos, if_neg, getD_tsrs, fillA_len, fillA_at, fillA_full, evApp_z0, evApp_z1, evApp_z2, evApp_z3, cnE, Tryz.ntmps174, Tryz.results174,  hs, ht, set_ints])
      exact ⟨m + 1, by omega, hI0 _ _ ⟨m, _, (), mixI rfl, by omega, hd.symm, rfl⟩⟩

end Go.Proofs.YtkmnepmnjpdpkaaGreatDoor
namespace Go.Proofs.YtkmnepmnjpdpkaaGreatDoor
open Go Go.Ev Go.RowKit Go.Ev.Enc Go.Pl

def diffF (l : List Int) : Bool := decide (∀ k, k < l.length → ¬ l.getD k 0 ∈ l.take k)
def goodF (out e : List Int) : Bool := labOK out && diffF out && (tkn e out).all (fun n => inR n 0 60) && shapeOK (tkn e out)
end Go.Proofs.YtkmnepmnjpdpkaaGreatDoor
namespace Go.Proofs.YtkmnepmnjpdpkaaGreatDoor
open Go Go.Ev Go.RowKit Go.Ev.Enc Go.Pl

theorem gmem {l : List Int} {d : Nat} (h : d < l.length) : l.getD d 0 ∈ l := by simp [h]
def prE : List Int → Int
  | [] => 1
  | x :: r => x * prE r
def inE (l : List Int) : Prop := ∀ x ∈ l, 0 ≤ x ∧ x ≤ 60
theorem prE_nn : ∀ {l : List Int}, inE l → 0 ≤ prE l
  | [], _ => by decide
  | x :: r, h => Int.mul_nonneg (h x (by simp)).1 (prE_nn fun y hy => h y (by simp [hy]))
theorem prE_le : ∀ {l : List Int}, inE l → prE l ≤ 60 ^ l.length
  | [], _ => by decide
  | x :: r, h => by
    have h1 := prE_le (l := r) fun y hy => h y (by simp [hy])
    have h2 := prE_nn (l := r) fun y hy => h y (by simp [hy])
    have h3 := h x (by simp)
    rw [prE, List.length_cons, Int.pow_succ, Int.mul_comm (60 ^ r.length)]
    exact Int.mul_le_mul h3.2 h1 h2 (by decide)
theorem pow60_le {n : Nat} (h : n ≤ 5) : (60 : Int) ^ n ≤ 777600000 := by
  match n, h with
  | 0, _ => decide
  | 1, _ => decide
  | 2, _ => decide
  | 3, _ => decide
  | 4, _ => decide
  | 5, _ => decide
theorem foldW (r : List Int) : ∀ a : Int, inE r → 0 ≤ a → (∀ k, k ≤ r.length → a * prE (r.take k) ≤ 9223372036854775807) → r.foldl (fun n e => IntKind.i64.wrap (n * e)) a = a * prE r := by
  induction r with
  | nil => intro a _ _ _; simp [prE]
  | cons x r ih =>
    intro a h ha hk
    have hx := h x (by simp)
    have h1 := hk 1 (by simp)
    have e1 : prE ((x :: r).take 1) = x := by simp [prE]
    rw [e1] at h1
    rw [List.foldl_cons, wrap_in ⟨by have := Int.mul_nonneg ha hx.1; omega, h1⟩, ih _ (fun y hy => h y (by simp [hy])) (Int.mul_nonneg ha hx.1), prE, Int.mul_assoc]
    intro k hkr
    have h2 := hk (k + 1) (by simpa using hkr)
    rw [List.take_succ_cons, prE] at h2
    rw [Int.mul_assoc]; exact h2
theorem prodW_eq {l : List Int} (h : inE l) (hl : l.length ≤ 5) : prodW l = prE l := by
  unfold prodW
  rw [foldW l 1 h (by decide) (fun k hk => ?_), Int.one_mul]
  have h1 := prE_le (l := l.take k) fun y hy => h y (List.mem_of_mem_take hy)
  have h2 := pow60_le (n := (l.take k).length) (by rw [List.length_take]; omega)
  omega
theorem prE_pos : ∀ {l : List Int}, inE l → 0 < prE l → ∀ x ∈ l, 1 ≤ x
  | [], _, _, x, hx => by simp at hx
  | y :: r, h, hp, x, hx => by
    have hy := h y (by simp)
    have hr := prE_nn (l := r) fun z hz => h z (by simp [hz])
    rw [prE] at hp
    have hy0 : y ≠ 0 := fun e => by rw [e, Int.zero_mul] at hp; omega
    have hr0 : prE r ≠ 0 := fun e => by rw [e, Int.mul_zero] at hp; omega
    rcases List.mem_cons.1 hx with rfl | hx
    · omega
    · exact prE_pos (fun z hz => h z (by simp [hz])) (by omega) x hx
theorem prE_snoc : ∀ (l : List Int) (x : Int), prE (l ++ [x]) = prE l * x
  | [], x => by simp [prE]
  | y :: r, x => by rw [List.cons_append, prE, prE, prE_snoc r x, Int.mul_assoc]

structure ExtOK (l : List Tsr) (b : List (List Int)) (e : List Int) : Prop where
  len : e.length = 5
  bl : b.length = l.length
  l1 : 1 ≤ l.length
  l3 : l.length ≤ 3
  lab : labsIn b
  row : ∀ k, k < b.length → (b.getD k []).length = (l.getD k ⟨[], []⟩).sh.length
  tsr : ∀ k, k < l.length → tsrOK (l.getD k ⟨[], []⟩) = true
  ext : ∀ k, k < b.length → ∀ d, d < (b.getD k []).length → e.getD ((b.getD k []).getD d 0).toNat 0 = (l.getD k ⟨[], []⟩).sh.getD d 0
  ub : ∀ k, e.getD k 0 ≤ 60
theorem unrF_bd {s : List Int} (hs : ∀ i, i < s.length → 1 ≤ s.getD i 0) {k : Int} (hk : 0 ≤ k) {m : Nat} (hm : m < s.length) : 0 ≤ (unrF s k).getD m 0 ∧ (unrF s k).getD m 0 < s.getD m 0 := by
  rw [unrF_at hm]
  have h1 : ∀ d ∈ s.reverse.take (s.length - (m + 1)), 1 ≤ d := fun d hd => by
    have := List.mem_of_mem_take hd
    rw [List.mem_reverse] at this
    obtain ⟨i, hi, rfl⟩ := List.mem_iff_getElem.1 this
    have := hs i hi
    simpa [hi] using this
  have h2 := (divR_nn _ k h1 hk).1
  have h3 := hs m hm
  exact ⟨Int.tmod_nonneg _ h2, by have := Int.tmod_lt_of_pos (divR (s.reverse.take (s.length - (m + 1))) k) (show 0 < s.getD m 0 by omega); exact this⟩
end Go.Proofs.YtkmnepmnjpdpkaaGreatDoor
namespace Go.Proofs.YtkmnepmnjpdpkaaGreatDoor
open Go Go.Ev Go.RowKit Go.Ev.Enc Go.Pl

structure SumCtx (l : List Tsr) (b : List (List Int)) (out e used : List Int) : Prop where
  ext : ExtOK l b e
  sz : szOK l b
  ol : out.length < 4294967296
  good : goodF out e = true
  ul : ∀ u ∈ used, 0 ≤ u ∧ u < 5
  ue : ∀ u ∈ used, 0 ≤ e.getD u.toNat 0
  ud : used.Pairwise (· < ·)
  un : used.length ≤ 5
end Go.Proofs.YtkmnepmnjpdpkaaGreatDoor
namespace Go.Proofs.YtkmnepmnjpdpkaaGreatDoor
open Go Go.Ev Go.RowKit Go.Ev.Enc Go.Pl

theorem unrF_snoc (s : List Int) (d k : Int) : unrF (s ++ [d]) k = unrF s (k.tdiv d) ++ [k.tmod d] := by
  unfold unrF
  rw [List.reverse_append, List.reverse_singleton, List.singleton_append, unrR, List.reverse_cons]
theorem unrF_qr (s : List Int) (d q r : Nat) (h : r < d) : unrF (s ++ [(d : Int)]) ((q * d + r : Nat) : Int) = unrF s q ++ [(r : Int)] := by
  rw [unrF_snoc, ← Int.ofNat_tdiv, ← Int.ofNat_tmod]
  have h1 : (q * d + r) / d = q := by rw [Nat.mul_comm, Nat.mul_add_div (by omega), Nat.div_eq_of_lt h, Nat.add_zero]
  have h2 : (q * d + r) % d = r := by rw [Nat.mul_comm, Nat.mul_add_mod, Nat.mod_eq_of_lt h]
  rw [h1, h2]
end Go.Proofs.YtkmnepmnjpdpkaaGreatDoor
namespace Go.Proofs.YtkmnepmnjpdpkaaGreatDoor
open Go Go.Ev Go.RowKit Go.Ev.Enc Go.Pl

theorem evApp_i6 {B0 B1 B2 B3 B4 B5 : Blk} {L : List Blk} {n by' : Nat} {q : List Int} {x : Int} (hn : q.length = n) (h1 : (n + 1) * by' ≤ 140737488355328) (h2 : n + 1 ≤ 9223372036854775807) :
    evApp (B0 :: B1 :: B2 :: B3 :: B4 :: B5 :: ⟨1, q.map fun n => .int .i64 n⟩ :: L) (.sl 6 n 0 n n) [.int .i64 x] 1 by' = some (.sl 6 (n + 1) 0 (n + 1) (n + 1), B0 :: B1 :: B2 :: B3 :: B4 :: B5 :: ⟨1, (q ++ [x]).map fun n => .int .i64 n⟩ :: L) := evApp_int (L := B0 :: B1 :: B2 :: B3 :: B4 :: B5 :: ⟨1, q.map fun n => .int .i64 n⟩ :: L) (b := 6) rfl hn h1 h2
end Go.Proofs.YtkmnepmnjpdpkaaGreatDoor
namespace Go.Proofs.YtkmnepmnjpdpkaaGreatDoor
open Go Go.Ev Go.RowKit Go.Ev.Enc Go.Pl

end Go.Proofs.YtkmnepmnjpdpkaaGreatDoor
namespace Go.Proofs.YtkmnepmnjpdpkaaGreatDoor
open Go Go.Ev Go.RowKit Go.Ev.Enc Go.Pl

end Go.Proofs.YtkmnepmnjpdpkaaGreatDoor
namespace Go.Proofs.YtkmnepmnjpdpkaaGreatDoor
open Go Go.Ev Go.RowKit Go.Ev.Enc Go.Pl

def mks (k : Int) (n : Nat) : List Int := (List.range n).map fun i : Nat => k + (i : Int)
theorem mks_len (k : Int) (n : Nat) : (mks k n).length = n := by simp [mks]
theorem mks_at {k : Int} {n i : Nat} (h : i < n) : (mks k n).getD i 0 = k + (i : Int) := by simp [mks, h]
def part (k : Int) (i : Nat) (l : List Int) : List Int := mks k i ++ l.drop i
theorem part_len {k : Int} {i : Nat} {l : List Int} (h : i ≤ l.length) : (part k i l).length = l.length := by simp [part, mks]; omega
theorem part_zero (k : Int) (l : List Int) : part k 0 l = l := rfl
theorem part_full (k : Int) (l : List Int) : part k l.length l = mks k l.length := by simp [part]
theorem part_set {k : Int} {i : Nat} {l : List Int} (h : i < l.length) : (part k i l).set i (k + (i : Int)) = part k (i + 1) l := by
  unfold part
  rw [List.set_append_right _ _ (by rw [mks_len]; exact Nat.le_refl _), mks_len, Nat.sub_self, List.drop_eq_getElem_cons h, List.set_cons_zero]
  unfold mks
  rw [List.range_succ, List.map_append, List.append_assoc]
  rfl
theorem wrap_mk {k : Int} {i : Nat} (hk : -1000000000000 ≤ k ∧ k ≤ 1000000000000) (hi : i < 4294967296) : IntKind.i64.wrap (k + (i : Int) + 1) = k + ((i + 1 : Nat) : Int) := by
  rw [wrap_in (by omega)]; omega

theorem renB_ints (g : Nat → Option Nat) (l : List Int) : renB g ⟨1, l.map fun n => .int .i64 n⟩ = ⟨1, l.map fun n => .int .i64 n⟩ := by simp [renB, renC, expE, Function.comp_def]
theorem can_markI : CanCall Tryz.prog 81 := ⟨_, Tryz.func81, rfl, rfl⟩
set_option maxHeartbeats 2000000 in
set_option maxRecDepth 100000 in
theorem isp_markIntZ {Sg : FuncId → Option (List AV → Option AV)} (hS : Sound Tryz.prog Sg) (k : Int) (L : List Blk) : ISpec Tryz.prog 81 [.nilS, i64 k] L (fun r L' => r = i64 k ∧ L' = L) := by
  refine ISpec.intro Tryz.func81 rfl (vc_sound Tryz.pf hS _ _ _ ?_)
  repeat' (first | with_reducible first | refine kI (by kernel_rfl) ?_ | (first | refine kB1 ?_ ?_ | refine kB2 ?_ ?_) <;> intro hp | (first | refine kD1 ?_ ?_ | refine kD2 ?_ ?_ | refine kS1 ?_ ?_ | refine kS2 ?_ ?_) <;> intro hp <;> try simp only [hp] | simp -implicitDefEqProofs (disch := omega) only [go_sem, Nat.reduceAdd, Nat.reduceSub, reduceCtorEq, Nat.reduceLT, Nat.reduceLeDiff, Nat.reduceEqDiff, Nat.reduceMul, Int.reduceToNat, ↓reduceIte, List.take_of_length_le, if_pos, if_neg, getD_tsrs, fillA_len, fillA_at, fillA_full, evApp_z0, evApp_z1, evApp_z2, evApp_z3, evApp_i6, List.getElem?_set_self, List.set_set, cnE, Tryz.ntmps81, Tryz.results81])
  refine LoopQ.mix (fun t0 L0 nn ss => ∃ (j : Nat) (_ : Unit), (∃ x : Nat → AV, ss = ⟨mixL 0 (.k :: .v (i64 k) :: .k :: .k :: .k :: .v (i64 0) :: .s :: .s :: .s :: .s :: .s :: .s :: .s :: .s :: .s :: .s :: .s :: .s :: .k :: []) t0 x, L⟩) ∧ (True) ∧ nn = 0) ?_ ?_
  · exact ⟨_, ⟨0, (), mixI rfl, trivial, rfl⟩⟩
  · rintro I0 hI0 n s ⟨j, _, ⟨x, rfl⟩, g1, rfl⟩
    repeat' (first | with_reducible first | refine kI (by kernel_rfl) ?_ | (first | refine kB1 ?_ ?_ | refine kB2 ?_ ?_) <;> intro hp | (first | refine kD1 ?_ ?_ | refine kD2 ?_ ?_ | refine kS1 ?_ ?_ | refine kS2 ?_ ?_) <;> intro hp <;> try simp only [hp] | simp -implicitDefEqProofs (disch := omega) only [go_sem, Nat.reduceAdd, Nat.reduceSub, reduceCtorEq, Nat.reduceLT, Nat.reduceLeDiff, Nat.reduceEqDiff, Nat.reduceMul, Int.reduceToNat, ↓reduceIte, List.take_of_length_le, if_pos, if_neg, getD_tsrs, fillA_len, fillA_at, fillA_full, evApp_z0, evApp_z1, evApp_z2, evApp_z3, evApp_i6, List.getElem?_set_self, List.set_set, cnE, Tryz.ntmps81, Tryz.results81])
def gHeldI (l : List Int) (k : Int) : Option Int := gd (l.length < 4294967296 ∧ 0 ≤ k ∧ k ≤ 1000000000000 ∧ l = mks k l.length) (k + l.length)
theorem gHeldI_eq {l : List Int} {k : Int} (h : l.length < 4294967296 ∧ 0 ≤ k ∧ k ≤ 1000000000000 ∧ l = mks k l.length) : gHeldI l k = some (k + l.length) := gd_eq h
set_option maxHeartbeats 2000000 in
set_option maxRecDepth 100000 in
theorem spec_heldIntS {Sg : FuncId → Option (List AV → Option AV)} (hS : Sound Tryz.prog Sg) : ∀ a r, F2 gHeldI a = some r → CSpec Tryz.prog 83 a r := by
  refine spec2 Tryz.func83 rfl Tryz.pf hS ?_
  intro l k r hr
  obtain ⟨⟨h1, h2, h3, h4⟩, rfl⟩ := gd_some hr
  repeat' (first | with_reducible first | refine kI (by kernel_rfl) ?_ | (first | refine kB1 ?_ ?_ | refine kB2 ?_ ?_) <;> intro hp | (first | refine kD1 ?_ ?_ | refine kD2 ?_ ?_ | refine kS1 ?_ ?_ | refine kS2 ?_ ?_) <;> intro hp <;> try simp only [hp] | simp -implicitDefEqProofs (disch := omega) only [go_sem, Nat.reduceAdd, Nat.reduceSub, reduceCtorEq, Nat.reduceLT, Nat.reduceLeDiff, Nat.reduceEqDiff, Nat.reduceMul, Int.reduceToNat, ↓reduceIte, List.take_of_length_le, if_pos, if_neg, getD_tsrs, fillA_len, fillA_at, fillA_full, evApp_z0, evApp_z1, evApp_z2, evApp_z3, evApp_i6, List.getElem?_set_self, List.set_set, cnE, Tryz.ntmps83, Tryz.results83])
  refine LoopQ.mix (fun t0 L0 nn ss => ∃ (i : Nat) (_ : Unit), (∃ x : Nat → AV, ss = ⟨mixL 0 (.k :: .v (i64 (k + (i : Nat))) :: .k :: .k :: .s :: .v (i64 (i : Nat)) :: .s :: .s :: .s :: .s :: .s :: .s :: .s :: .s :: .s :: .s :: .s :: .s :: .s :: .s :: .k :: []) t0 x, L0⟩) ∧ (i ≤ l.length) ∧ nn = l.length - i) ?_ ?_
  · exact ⟨_, 0, (), mixI (by rw [show k + ((0 : Nat) : Int) = k from by omega]; rfl), Nat.zero_le _, rfl⟩
  · rintro I0 hI0 n s ⟨i, _, ⟨x, rfl⟩, g1, rfl⟩
    by_cases hlt : i < l.length
    · have hw := wrap_mk (k := k) (i := i) (by omega) (by omega)
      have hat : l.getD i 0 = k + (i : Int) := by rw [h4, mks_at hlt]
      repeat' (first | with_reducible first | refine kI (by kernel_rfl) ?_ | (first | refine kB1 ?_ ?_ | refine kB2 ?_ ?_) <;> intro hp | (first | refine kD1 ?_ ?_ | refine kD2 ?_ ?_ | refine kS1 ?_ ?_ | refine kS2 ?_ ?_) <;> intro hp <;> try simp only [hp] | simp -implicitDefEqProofs (disch := omega) only [go_sem, Nat.reduceAdd, Nat.reduceSub, reduceCtorEq, Nat.reduceLT, Nat.reduceLeDiff, Nat.reduceEqDiff, Nat.reduceMul, Int.reduceToNat, ↓reduceIte, List.take_of_length_le, if_pos, if_neg, getD_tsrs, fillA_len, fillA_at, fillA_full, evApp_z0, evApp_z1, evApp_z2, evApp_z3, evApp_i6, List.getElem?_set_self, List.set_set, cnE, Tryz.ntmps83, Tryz.results83,  hat, hw])
      exact ⟨l.length - (i + 1), by omega, hI0 _ _ ⟨i + 1, (), mixI rfl, hlt, rfl⟩⟩
    · obtain rfl : i = l.length := by omega
      repeat' (first | with_reducible first | refine kI (by kernel_rfl) ?_ | (first | refine kB1 ?_ ?_ | refine kB2 ?_ ?_) <;> intro hp | (first | refine kD1 ?_ ?_ | refine kD2 ?_ ?_ | refine kS1 ?_ ?_ | refine kS2 ?_ ?_) <;> intro hp <;> try simp only [hp] | simp -implicitDefEqProofs (disch := omega) only [go_sem, Nat.reduceAdd, Nat.reduceSub, reduceCtorEq, Nat.reduceLT, Nat.reduceLeDiff, Nat.reduceEqDiff, Nat.reduceMul, Int.reduceToNat, ↓reduceIte, List.take_of_length_le, if_pos, if_neg, getD_tsrs, fillA_len, fillA_at, fillA_full, evApp_z0, evApp_z1, evApp_z2, evApp_z3, evApp_i6, List.getElem?_set_self, List.set_set, cnE, Tryz.ntmps83, Tryz.results83])
set_option maxHeartbeats 4000000 in
set_option maxRecDepth 100000 in
theorem o_toIntS {Sg : FuncId → Option (List AV → Option AV)} (hS : Sound Tryz.prog Sg) (l : List Int) (h1 : l.length ≤ 1048576) : OSpec Tryz.prog 87 [ints 0 l] (fun n => .sl n l.length 0 l.length l.length) (fun _ => [⟨1, l.map fun n => .int .i64 n⟩]) := by
  refine OSpec.intro Tryz.func87 rfl (vc_sound Tryz.pf hS _ _ _ ?_)
  repeat' (first | with_reducible first | refine kI (by kernel_rfl) ?_ | (first | refine kB1 ?_ ?_ | refine kB2 ?_ ?_) <;> intro hp | (first | refine kD1 ?_ ?_ | refine kD2 ?_ ?_ | refine kS1 ?_ ?_ | refine kS2 ?_ ?_) <;> intro hp <;> try simp only [hp] | simp -implicitDefEqProofs (disch := omega) only [go_sem, Nat.reduceAdd, Nat.reduceSub, reduceCtorEq, Nat.reduceLT, Nat.reduceLeDiff, Nat.reduceEqDiff, Nat.reduceMul, Int.reduceToNat, ↓reduceIte, List.take_of_length_le, if_pos, if_neg, getD_tsrs, fillA_len, fillA_at, fillA_full, evApp_z0, evApp_z1, evApp_z2, evApp_z3, evApp_i6, List.getElem?_set_self, List.set_set, cnE, Tryz.ntmps87, Tryz.results87])
  refine LoopQ.mix (fun t0 L0 nn ss => ∃ (k : Nat) (_ : Unit), (∃ x : Nat → AV, ss = ⟨mixL 0 (.k :: .k :: .k :: .k :: .v (i64 (k : Nat)) :: .k :: .k :: .k :: .s :: .s :: .s :: .s :: .s :: .s :: .s :: .s :: .s :: .s :: .s :: .s :: .s :: .k :: []) t0 x, [⟨1, fillA (fun n => .int .i64 n) l k (.int .i64 0)⟩]⟩) ∧ (k ≤ l.length) ∧ nn = l.length - k) ?_ ?_
  · exact ⟨_, ⟨0, (), mixJ rfl (by rw [fillA_zero, rep_ints]), Nat.zero_le _, rfl⟩⟩
  · rintro I0 hI0 n s ⟨k, _, ⟨x, rfl⟩, h1, rfl⟩
    by_cases hlt : k < l.length
    · repeat' (first | with_reducible first | refine kI (by kernel_rfl) ?_ | (first | refine kB1 ?_ ?_ | refine kB2 ?_ ?_) <;> intro hp | (first | refine kD1 ?_ ?_ | refine kD2 ?_ ?_ | refine kS1 ?_ ?_ | refine kS2 ?_ ?_) <;> intro hp <;> try simp only [hp] | simp -implicitDefEqProofs (disch := omega) only [go_sem, Nat.reduceAdd, Nat.reduceSub, reduceCtorEq, Nat.reduceLT, Nat.reduceLeDiff, Nat.reduceEqDiff, Nat.reduceMul, Int.reduceToNat, ↓reduceIte, List.take_of_length_le, if_pos, if_neg, getD_tsrs, fillA_len, fillA_at, fillA_full, evApp_z0, evApp_z1, evApp_z2, evApp_z3, evApp_i6, List.getElem?_set_self, List.set_set, cnE, Tryz.ntmps87, Tryz.results87,  fillA_set (f := fun n => AV.int .i64 n)])
      exact ⟨l.length - (k + 1), by omega, hI0 _ _ ⟨k + 1, (), mixI rfl, hlt, rfl⟩⟩
    · obtain rfl : k = l.length := by omega
      repeat' (first | with_reducible first | refine kI (by kernel_rfl) ?_ | (first | refine kB1 ?_ ?_ | refine kB2 ?_ ?_) <;> intro hp | (first | refine kD1 ?_ ?_ | refine kD2 ?_ ?_ | refine kS1 ?_ ?_ | refine kS2 ?_ ?_) <;> intro hp <;> try simp only [hp] | simp -implicitDefEqProofs (disch := omega) only [go_sem, Nat.reduceAdd, Nat.reduceSub, reduceCtorEq, Nat.reduceLT, Nat.reduceLeDiff, Nat.reduceEqDiff, Nat.reduceMul, Int.reduceToNat, ↓reduceIte, List.take_of_length_le, if_pos, if_neg, getD_tsrs, fillA_len, fillA_at, fillA_full, evApp_z0, evApp_z1, evApp_z2, evApp_z3, evApp_i6, List.getElem?_set_self, List.set_set, cnE, Tryz.ntmps87, Tryz.results87])
      exact ⟨[0], by simp, by simp, fun _ => rfl, fun _ => by simp only [List.map, List.getD_cons_zero, renB_ints]⟩
theorem can_toI : CanCall Tryz.prog 87 := ⟨_, Tryz.func87, rfl, rfl⟩
end Go.Proofs.YtkmnepmnjpdpkaaGreatDoor
namespace Go.Proofs.YtkmnepmnjpdpkaaGreatDoor
open Go Go.Ev Go.RowKit Go.Ev.Enc Go.Pl

end Go.Proofs.YtkmnepmnjpdpkaaGreatDoor
namespace Go.Proofs.YtkmnepmnjpdpkaaGreatDoor
open Go Go.Ev Go.RowKit Go.Ev.Enc Go.Pl

def mmB (x y : Tsr) : Prop := (x.sh.length < 4294967296 ∧ x.vl.length < 4294967296) ∧ (y.sh.length < 4294967296 ∧ y.vl.length < 4294967296)
instance (x y : Tsr) : Decidable (mmB x y) := by unfold mmB; infer_instance
end Go.Proofs.YtkmnepmnjpdpkaaGreatDoor
namespace Go.Proofs.YtkmnepmnjpdpkaaGreatDoor
open Go Go.Ev Go.RowKit Go.Ev.Enc Go.Pl

theorem mks_take (k : Int) (n : Nat) : (mks k n).take n = mks k n := List.take_of_length_le (by rw [mks_len]; exact Nat.le_refl _)
end Go.Proofs.YtkmnepmnjpdpkaaGreatDoor
