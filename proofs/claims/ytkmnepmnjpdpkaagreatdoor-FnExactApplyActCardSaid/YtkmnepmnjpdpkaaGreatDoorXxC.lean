/- Contracts of functions on views and memories that the laws of this seat call. -/
import Derived.Test.YtkmnepmnjpdpkaaGreatDoorXd
set_option linter.all false
namespace Go.Proofs.YtkmnepmnjpdpkaaGreatDoor
open Go Go.Ev Go.RowKit Go.Ev.Enc Go.Pl

theorem callF {P : Program} {f : FuncId} {args : List AV} {K : AV → List Blk → Prop} (h : ISpec P f args [] K) {L : List Blk} {xs : List AV} {K' : AV → List Blk → Prop} (hx : xs.map (exp 0 L) = args) (hk : ∀ v N, K v N → K' (ownV L.length v) (L ++ N.map (ownB L.length))) : ISpec P f xs L K' :=
  (h.frame hx).mono (by rintro r L' ⟨v0, N0, hK, rfl, rfl⟩; exact hk _ _ hK)
theorem get_fr {N L : List Blk} {b : Nat} {k : Blk} (h : N[b]? = some k) : (L ++ N.map (ownB L.length))[L.length + b]? = some (ownB L.length k) := by
  rw [List.getElem?_append_right (by omega), Nat.add_sub_cancel_left, List.getElem?_map, h]; rfl
theorem get_frs {N L : List Blk} {b : Nat} {l : List Int} (h : N[b]? = some (stB l)) : (L ++ N.map (ownB L.length))[L.length + b]? = some (stB l) := by
  rw [get_fr h]; unfold ownB; rw [List.map_map]; rfl
theorem can_markA : CanCall Tryz.prog 49 := ⟨_, Tryz.func49, rfl, rfl⟩
def gEqX (a b : Ac) : Option Bool := gd (a.n.length < 4294967296 ∧ b.n.length < 4294967296) (decide (a = b))
theorem gEqX_eq {a b : Ac} (h1 : a.n.length < 4294967296) (h2 : b.n.length < 4294967296) : gEqX a b = some (decide (a = b)) := gd_eq ⟨h1, h2⟩
set_option maxHeartbeats 4000000 in
set_option maxRecDepth 100000 in
theorem spec_eqAct {Sg : FuncId → Option (List AV → Option AV)} (hS : Sound Tryz.prog Sg) (he : Sg 79 = some (F2 gEqInts)) : ∀ a r, F2 gEqX a = some r → CSpec Tryz.prog 48 a r := by
  refine F2_spec ?_
  rintro ⟨k, l⟩ ⟨j, m⟩ r hr
  obtain ⟨⟨h1, h2⟩, rfl⟩ := gd_some hr
  dsimp only at h1 h2
  have q := gEqInts_eq (a := l) (b := m) ⟨h1, h2⟩
  have hd : decide ((⟨k, l⟩ : Ac) = ⟨j, m⟩) = ((k == j) && decide (l = m)) := by
    rw [Bool.eq_iff_iff]; simp
  rw [hd]
  refine CSpec.intro Tryz.func48 rfl (own _) (vc3_sound Tryz.pf hS hS _ _ _ ?_)
  by_cases e : k = j
  · have e' : (k == j) = true := beq_t e
    rw [e']
    by_cases e2 : l = m
    · rw [decide_eq_true e2] at q ⊢
      repeat' (first | with_reducible first | refine kI (by kernel_rfl) ?_ | refine kN (by kernel_rfl) ?_ | (first | refine kB1 ?_ ?_ | refine kB2 ?_ ?_) <;> intro hp | (first | refine kD1 ?_ ?_ | refine kD2 ?_ ?_ | refine kS1 ?_ ?_ | refine kS2 ?_ ?_) <;> intro hp <;> try simp only [hp] | simp -implicitDefEqProofs (disch := omega) only [go_sem, Nat.reduceAdd, Nat.reduceSub, reduceCtorEq, Nat.reduceLT, Nat.reduceLeDiff, Nat.reduceEqDiff, Nat.reduceMul, Int.reduceToNat, ↓reduceIte, List.take_of_length_le, if_pos, if_neg, List.getElem?_set_self, List.set_set, getD_exs, cnE, cnV, Tryz.ntmps48, Tryz.results48,  e', he, q])
      try rfl
    · rw [decide_eq_false e2] at q ⊢
      repeat' (first | with_reducible first | refine kI (by kernel_rfl) ?_ | refine kN (by kernel_rfl) ?_ | (first | refine kB1 ?_ ?_ | refine kB2 ?_ ?_) <;> intro hp | (first | refine kD1 ?_ ?_ | refine kD2 ?_ ?_ | refine kS1 ?_ ?_ | refine kS2 ?_ ?_) <;> intro hp <;> try simp only [hp] | simp -implicitDefEqProofs (disch := omega) only [go_sem, Nat.reduceAdd, Nat.reduceSub, reduceCtorEq, Nat.reduceLT, Nat.reduceLeDiff, Nat.reduceEqDiff, Nat.reduceMul, Int.reduceToNat, ↓reduceIte, List.take_of_length_le, if_pos, if_neg, List.getElem?_set_self, List.set_set, getD_exs, cnE, cnV, Tryz.ntmps48, Tryz.results48,  e', he, q])
      try rfl
  · have e' : (k == j) = false := beq_f e
    rw [e']
    repeat' (first | with_reducible first | refine kI (by kernel_rfl) ?_ | refine kN (by kernel_rfl) ?_ | (first | refine kB1 ?_ ?_ | refine kB2 ?_ ?_) <;> intro hp | (first | refine kD1 ?_ ?_ | refine kD2 ?_ ?_ | refine kS1 ?_ ?_ | refine kS2 ?_ ?_) <;> intro hp <;> try simp only [hp] | simp -implicitDefEqProofs (disch := omega) only [go_sem, Nat.reduceAdd, Nat.reduceSub, reduceCtorEq, Nat.reduceLT, Nat.reduceLeDiff, Nat.reduceEqDiff, Nat.reduceMul, Int.reduceToNat, ↓reduceIte, List.take_of_length_le, if_pos, if_neg, List.getElem?_set_self, List.set_set, getD_exs, cnE, cnV, Tryz.ntmps48, Tryz.results48,  e'])
    try rfl
end Go.Proofs.YtkmnepmnjpdpkaaGreatDoor
namespace Go.Proofs.YtkmnepmnjpdpkaaGreatDoor
open Go Go.Ev Go.RowKit Go.Ev.Enc Go.Pl

structure Px where
  x : Ex
  a : Nat
  c : Nat
abbrev pxE (t : Px) : AV := .agg [.int .i64 t.x.p, .int .i64 t.x.v.b, .sl t.a t.x.v.sh.length 0 t.x.v.sh.length t.x.v.sh.length, .sl t.c t.x.v.st.length 0 t.x.v.st.length t.x.v.st.length, .bool t.x.o]
def pxH (M : List Blk) (xl : List Px) : Prop := ∀ t ∈ xl, M[t.a]? = some (stB t.x.v.sh) ∧ M[t.c]? = some (stB t.x.v.st)
def pxI (xl : List Px) : List Nat := xl.flatMap fun t => [t.a, t.c]
theorem mem_pxI {xl : List Px} {b : Nat} : b ∈ pxI xl ↔ ∃ t ∈ xl, b = t.a ∨ b = t.c := by simp [pxI]
theorem pxI_app (a b : List Px) : pxI (a ++ b) = pxI a ++ pxI b := by simp [pxI]
def exH (M : List Blk) (be : AV) (xl : List Px) (js : List Nat) : Prop := (xl = [] ∧ be = .nilS ∧ js = []) ∨ ∃ j, js = [j] ∧ be = .sl j xl.length 0 xl.length xl.length ∧ M[j]? = some ⟨5, xl.map pxE⟩
structure HBx (M : List Blk) (i : Nat) (be : AV) (js : List Nat) (xl : List Px) (B : Bf) : Prop where
  c : M[i]? = some (stB B.c)
  e : xl.map Px.x = B.e
  x : exH M be xl js
  h : pxH M xl
  n : (i :: (js ++ pxI xl)).Nodup
def HB (lo hi : Nat) (M : List Blk) (v : AV) (B : Bf) : Prop := ∃ i be js xl, v = .agg [.sl i B.c.length 0 B.c.length B.c.length, be] ∧ HBx M i be js xl B ∧ ∀ b ∈ i :: (js ++ pxI xl), lo ≤ b ∧ b < hi
section
variable {M M' : List Blk} {i : Nat} {be : AV} {js : List Nat} {xl : List Px} {B : Bf}
theorem HBx.lt (h : HBx M i be js xl B) : ∀ b ∈ i :: (js ++ pxI xl), b < M.length := by
  intro b hb
  rcases List.mem_cons.1 hb with rfl | hb
  · exact (List.getElem?_eq_some_iff.1 h.c).1
  rcases List.mem_append.1 hb with hb | hb
  · rcases h.x with ⟨-, -, rfl⟩ | ⟨j, rfl, -, hj⟩
    · cases hb
    · rw [List.mem_singleton.1 hb]; exact (List.getElem?_eq_some_iff.1 hj).1
  · obtain ⟨t, ht, rfl | rfl⟩ := mem_pxI.1 hb
    · exact (List.getElem?_eq_some_iff.1 (h.h t ht).1).1
    · exact (List.getElem?_eq_some_iff.1 (h.h t ht).2).1
theorem HBx.same (h : HBx M i be js xl B) (hM : ∀ b ∈ i :: (js ++ pxI xl), M'[b]? = M[b]?) : HBx M' i be js xl B := by
  refine ⟨(hM i (by simp)).trans h.c, h.e, ?_, fun t ht => ⟨(hM _ ?_).trans (h.h t ht).1, (hM _ ?_).trans (h.h t ht).2⟩, h.n⟩
  · rcases h.x with h | ⟨j, rfl, h1, h2⟩
    · exact .inl h
    · exact .inr ⟨j, rfl, h1, (hM j (by simp)).trans h2⟩
  · simp only [List.mem_cons, List.mem_append, mem_pxI]; exact .inr (.inr ⟨t, ht, .inl rfl⟩)
  · simp only [List.mem_cons, List.mem_append, mem_pxI]; exact .inr (.inr ⟨t, ht, .inr rfl⟩)
theorem HBx.ext (h : HBx M i be js xl B) (Y : List Blk) : HBx (M ++ Y) i be js xl B := h.same fun b hb => List.getElem?_append_left (h.lt b hb)
theorem exH.exp (hx : exH M be xl js) (hh : pxH M xl) : expC 0 M be = .ds 0 (exL 0 (xl.map Px.x)) := by
  rcases hx with ⟨rfl, rfl, -⟩ | ⟨j, -, rfl, hj⟩
  · rfl
  · rw [ec_sl, ee_sl, hj]
    simp only [expS, List.length_map, Nat.zero_add, Nat.le_refl, and_self, if_true, List.drop_zero]
    rw [List.take_of_length_le (by simp)]
    congr 1
    rw [exL, List.map_map, List.map_map]
    apply List.map_congr_left
    intro t ht
    obtain ⟨h1, h2⟩ := hh t ht
    simp only [Function.comp_def, expE, List.map_cons, List.map_nil, stepC, h1, h2, List.length_map, Nat.zero_add, Nat.le_refl, and_self, if_true, List.drop_zero]
    rw [List.take_of_length_le (by simp), List.take_of_length_le (by simp)]
    simp [ints, Function.comp_def, expE, stepC]
theorem HBx.exp (h : HBx M i be js xl B) : expC 0 M be = .ds 0 (exL 0 B.e) := by rw [h.x.exp h.h, h.e]
end
theorem HB.same {lo hi : Nat} {M M' : List Blk} {v : AV} {B : Bf} (h : HB lo hi M v B) (hM : ∀ b, lo ≤ b → b < hi → M'[b]? = M[b]?) : HB lo hi M' v B := by
  obtain ⟨i, be, js, xl, h1, h2, h3⟩ := h
  exact ⟨i, be, js, xl, h1, h2.same fun b hb => hM b (h3 b hb).1 (h3 b hb).2, h3⟩
theorem HB.ext {lo hi : Nat} {M : List Blk} {v : AV} {B : Bf} (h : HB lo hi M v B) (Y : List Blk) : HB lo hi (M ++ Y) v B := by
  obtain ⟨i, be, js, xl, h1, h2, h3⟩ := h
  exact ⟨i, be, js, xl, h1, h2.ext Y, h3⟩
theorem HB.mono {lo hi lo' hi' : Nat} {M : List Blk} {v : AV} {B : Bf} (h : HB lo hi M v B) (h1 : lo' ≤ lo) (h2 : hi ≤ hi') : HB lo' hi' M v B := by
  obtain ⟨i, be, js, xl, a1, a2, a3⟩ := h
  exact ⟨i, be, js, xl, a1, a2, fun b hb => ⟨by have := a3 b hb; omega, by have := a3 b hb; omega⟩⟩
theorem nod_add (n : Nat) {l : List Nat} (h : l.Nodup) : (l.map (n + ·)).Nodup := List.Pairwise.map _ (fun a b h => by omega) h
theorem HB.frame {hi : Nat} {N L : List Blk} {v : AV} {B : Bf} (h : HB 0 hi N v B) : HB L.length (L.length + hi) (L ++ N.map (ownB L.length)) (ownV L.length v) B := by
  obtain ⟨i, be, js, xl, rfl, h2, h3⟩ := h
  let sh : Px → Px := fun t => ⟨t.x, L.length + t.a, L.length + t.c⟩
  have hI : (L.length + i) :: ((js.map (L.length + ·)) ++ pxI (xl.map sh)) = (i :: (js ++ pxI xl)).map (L.length + ·) := by
    simp [pxI, sh, List.map_flatMap, List.flatMap_map]
  refine ⟨L.length + i, ownC L.length be, js.map (L.length + ·), xl.map sh, rfl, ⟨get_frs h2.c, by rw [List.map_map]; exact h2.e, ?_, fun t ht => ?_, by rw [hI]; exact nod_add _ h2.n⟩, fun b hb => ?_⟩
  · rcases h2.x with ⟨rfl, rfl, rfl⟩ | ⟨j, rfl, rfl, hj⟩
    · exact .inl ⟨rfl, rfl, rfl⟩
    · refine .inr ⟨L.length + j, rfl, by rw [List.length_map]; rfl, ?_⟩
      rw [get_fr hj]; unfold ownB; rw [List.map_map, List.map_map]; rfl
  · obtain ⟨u, hu, rfl⟩ := List.mem_map.1 ht
    exact ⟨get_frs (h2.h u hu).1, get_frs (h2.h u hu).2⟩
  · rw [hI] at hb
    obtain ⟨q, hq, rfl⟩ := List.mem_map.1 hb
    have := h3 q hq
    omega
def HO (lo hi : Nat) (M : List Blk) (v : AV) (o : Option Bf) : Prop := match o with
  | some B => ∃ x, v = .tup [x, .bool true] ∧ HB lo hi M x B
  | none => v = .tup [.agg [.nilS, .nilS], .bool false]
theorem HO.frame {hi : Nat} {N L : List Blk} {v : AV} {o : Option Bf} (h : HO 0 hi N v o) : HO L.length (L.length + hi) (L ++ N.map (ownB L.length)) (ownV L.length v) o := by
  cases o with
  | none => cases h; rfl
  | some B =>
    obtain ⟨x, rfl, hx⟩ := h
    have := HB.frame (L := L) hx
    obtain ⟨i, be, js, xl, rfl, -⟩ := hx
    exact ⟨_, rfl, this⟩
end Go.Proofs.YtkmnepmnjpdpkaaGreatDoor
namespace Go.Proofs.YtkmnepmnjpdpkaaGreatDoor
open Go Go.Ev Go.RowKit Go.Ev.Enc Go.Pl

section
variable {α β : Type} (m : Int → α → α) (n : Int → α → Int) (m2 : Int → β → β) (n2 : Int → β → Int)
def mkL : Int → List α → List α
  | _, [] => []
  | k, t :: l => m k t :: mkL (n k t) l
def nxL : Int → List α → Int
  | k, [] => k
  | k, t :: l => nxL (n k t) l
def mkdL : Int → List α → Prop
  | _, [] => True
  | k, t :: l => m k t = t ∧ mkdL (n k t) l
theorem mkL_len : ∀ (k : Int) (l : List α), (mkL m n k l).length = l.length
  | _, [] => rfl
  | k, t :: l => by rw [mkL, List.length_cons, List.length_cons, mkL_len]
theorem nxL_snoc (t : α) : ∀ (k : Int) (l : List α), nxL n k (l ++ [t]) = n (nxL n k l) t
  | _, [] => rfl
  | k, a :: l => by rw [List.cons_append, nxL, nxL, nxL_snoc t]
theorem mkL_snoc (t : α) : ∀ (k : Int) (l : List α), mkL m n k (l ++ [t]) = mkL m n k l ++ [m (nxL n k l) t]
  | _, [] => rfl
  | k, a :: l => by rw [List.cons_append, mkL, mkL, mkL_snoc t, nxL]; rfl
variable {m n m2 n2}
theorem mkL_map {f : α → β} (hf : ∀ k t, f (m k t) = m2 k (f t)) (hn : ∀ k t, n k t = n2 k (f t)) : ∀ (k : Int) (l : List α), (mkL m n k l).map f = mkL m2 n2 k (l.map f)
  | _, [] => rfl
  | k, t :: l => by rw [mkL, List.map_cons, List.map_cons, mkL, mkL_map hf hn, hf, hn]
theorem nxL_map {f : α → β} (hn : ∀ k t, n k t = n2 k (f t)) : ∀ (k : Int) (l : List α), nxL n k l = nxL n2 k (l.map f)
  | _, [] => rfl
  | k, t :: l => by rw [nxL, List.map_cons, nxL, nxL_map hn, hn]
theorem mkL_keep {f : α → β} (hf : ∀ k t, f (m k t) = f t) : ∀ (k : Int) (l : List α), (mkL m n k l).map f = l.map f
  | _, [] => rfl
  | k, t :: l => by rw [mkL, List.map_cons, List.map_cons, mkL_keep hf, hf]
theorem nxL_le {c : Nat} : ∀ {k : Int} {l : List α}, (∀ t ∈ l, ∀ k, k ≤ n k t ∧ n k t ≤ k + c) → k ≤ nxL n k l ∧ nxL n k l ≤ k + c * l.length
  | k, [], _ => by simp [nxL]
  | k, t :: l, h => by
    have h1 := h t (by simp) k
    have h2 := nxL_le (k := n k t) (l := l) fun b hb => h b (by simp [hb])
    have h3 : (c : Int) * ((t :: l).length : Int) = c * (l.length : Int) + c := by rw [List.length_cons]; push_cast; rw [Int.mul_add, Int.mul_one]
    rw [nxL]
    generalize (c : Int) * (l.length : Int) = z at *
    rw [h3]
    omega
theorem nxL_mk (h : ∀ k t, n k (m k t) = n k t) : ∀ (k : Int) (l : List α), nxL n k (mkL m n k l) = nxL n k l
  | _, [] => rfl
  | k, t :: l => by rw [mkL, nxL, nxL, h, nxL_mk h]
theorem mkdL_mk (h : ∀ k t, n k (m k t) = n k t) (h2 : ∀ k t, m k (m k t) = m k t) : ∀ (k : Int) (l : List α), mkdL m n k (mkL m n k l)
  | _, [] => trivial
  | k, t :: l => ⟨h2 k t, by rw [h]; exact mkdL_mk h h2 _ l⟩
theorem mkdL_at {d : α} : ∀ {k : Int} {l : List α} {i : Nat}, mkdL m n k l → i < l.length → m (nxL n k (l.take i)) (l.getD i d) = l.getD i d
  | k, a :: l, 0, h, _ => h.1
  | k, a :: l, i + 1, h, hi => by
    have := mkdL_at (d := d) (k := n k a) (l := l) (i := i) h.2 (by simpa using hi)
    rw [List.take_succ_cons, nxL, List.getD_cons_succ]; exact this
variable (m n)
def parM (k : Int) (i : Nat) (l : List α) : List α := mkL m n k (l.take i) ++ l.drop i
variable {m n}
theorem parM_len {k : Int} {i : Nat} {l : List α} (h : i ≤ l.length) : (parM m n k i l).length = l.length := by
  simp [parM, mkL_len]; omega
theorem parM_at {d : α} {k : Int} {i : Nat} {l : List α} (h : i < l.length) : (parM m n k i l).getD i d = l.getD i d := by
  have h1 : (mkL m n k (l.take i)).length = i := by rw [mkL_len, List.length_take]; omega
  unfold parM
  rw [List.getD_eq_getElem?_getD, List.getElem?_append_right (by omega), h1, Nat.sub_self, List.getElem?_drop, Nat.add_zero, List.getD_eq_getElem?_getD]
theorem take_sL {d : α} {l : List α} {i : Nat} (h : i < l.length) : l.take (i + 1) = l.take i ++ [l.getD i d] := by
  rw [List.take_succ_eq_append_getElem h]; simp [h]
theorem mem_L {d : α} {l : List α} {i : Nat} (h : i < l.length) : l.getD i d ∈ l := by simp [h]
theorem parM_set {d : α} {k : Int} {i : Nat} {l : List α} (h : i < l.length) : (parM m n k i l).set i (m (nxL n k (l.take i)) (l.getD i d)) = parM m n k (i + 1) l := by
  have h1 : (mkL m n k (l.take i)).length = i := by rw [mkL_len, List.length_take]; omega
  unfold parM
  rw [List.set_append_right _ _ (by omega), h1, Nat.sub_self, List.drop_eq_getElem_cons h, List.set_cons_zero, take_sL (d := d) h, mkL_snoc, List.append_assoc]
  rfl
theorem parM_keep {f : α → β} (hf : ∀ k t, f (m k t) = f t) {k : Int} {i : Nat} {l : List α} : (parM m n k i l).map f = l.map f := by
  unfold parM
  rw [List.map_append, mkL_keep hf, ← List.map_append, List.take_append_drop]
theorem parM_full (k : Int) (l : List α) : parM m n k l.length l = mkL m n k l := by simp [parM]
theorem nxL_next {d : α} {k : Int} {i : Nat} {l : List α} (h : i < l.length) : nxL n k (l.take (i + 1)) = n (nxL n k (l.take i)) (l.getD i d) := by
  rw [take_sL (d := d) h, nxL_snoc]
end
end Go.Proofs.YtkmnepmnjpdpkaaGreatDoor
