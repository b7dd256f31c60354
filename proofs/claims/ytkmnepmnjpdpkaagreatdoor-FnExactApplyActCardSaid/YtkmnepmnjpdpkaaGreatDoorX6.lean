/- Contracts of functions that the laws of this seat call. -/
import Derived.Test.YtkmnepmnjpdpkaaGreatDoorXxC
set_option linter.all false
namespace Go.Proofs.YtkmnepmnjpdpkaaGreatDoor
open Go Go.Ev Go.RowKit Go.Ev.Enc Go.Pl

theorem pxH_same {M M' : List Blk} {xl : List Px} (h : pxH M xl) (hM : ∀ b ∈ pxI xl, M'[b]? = M[b]?) : pxH M' xl := fun t ht => ⟨(hM _ (mem_pxI.2 ⟨t, ht, .inl rfl⟩)).trans (h t ht).1, (hM _ (mem_pxI.2 ⟨t, ht, .inr rfl⟩)).trans (h t ht).2⟩
theorem pxH_snoc {M : List Blk} {xl : List Px} {t : Px} (h : pxH M xl) (h1 : M[t.a]? = some (stB t.x.v.sh)) (h2 : M[t.c]? = some (stB t.x.v.st)) : pxH M (xl ++ [t]) := fun u hu => by
  rcases List.mem_append.1 hu with hu | hu
  · exact h u hu
  · rw [List.mem_singleton.1 hu]; exact ⟨h1, h2⟩
theorem pxH_lt {M : List Blk} {xl : List Px} (h : pxH M xl) : ∀ b ∈ pxI xl, b < M.length := fun b hb => by
  obtain ⟨t, ht, rfl | rfl⟩ := mem_pxI.1 hb
  · exact (List.getElem?_eq_some_iff.1 (h t ht).1).1
  · exact (List.getElem?_eq_some_iff.1 (h t ht).2).1
theorem pxI_one (t : Px) : pxI [t] = [t.a, t.c] := rfl
theorem evApp_pX {L : List Blk} {n b : Nat} {q : List AV} {z : AV} (hb : L[b]? = some ⟨5, q⟩) (hn : q.length = n) (h1 : (n + 1) * 72 ≤ 140737488355328) :
    evApp L (.sl b n 0 n n) [z] 5 72 = some (.sl b (n + 1) 0 (n + 1) (n + 1), L.set b ⟨5, q ++ [z]⟩) := by
  rw [evApp_gen (b := b) (q := q) (new := [z]) hb hn h1 (by simp; omega)]; rfl
structure CpS (W : List Blk) (B : Bf) (i : Nat) (be : AV) (js : List Nat) (xl : List Px) : Prop where
  o : W[3]? = some ⟨2, [.agg [.sl 2 B.c.length 0 B.c.length B.c.length, be]]⟩
  c : W[2]? = some (stB B.c)
  r : W[1]? = some ⟨2, [.agg [.nilS, .nilS]]⟩
  e : xl.map Px.x = B.e.take i
  x : exH W be xl js
  h : pxH W xl
  n : (js ++ pxI xl).Nodup
  l : ∀ b ∈ js ++ pxI xl, 4 ≤ b
theorem CpS.len {W : List Blk} {B : Bf} {i : Nat} {be : AV} {js : List Nat} {xl : List Px} (h : CpS W B i be js xl) (hi : i ≤ B.e.length) : xl.length = i := by
  have := congrArg List.length h.e
  rw [List.length_map, List.length_take] at this
  omega
theorem CpS.lt {W : List Blk} {B : Bf} {i : Nat} {be : AV} {js : List Nat} {xl : List Px} (h : CpS W B i be js xl) : 3 < W.length ∧ ∀ b ∈ js ++ pxI xl, b < W.length := by
  refine ⟨(List.getElem?_eq_some_iff.1 h.o).1, fun b hb => ?_⟩
  rcases List.mem_append.1 hb with hb | hb
  · rcases h.x with ⟨-, -, rfl⟩ | ⟨j, rfl, -, hj⟩
    · cases hb
    · rw [List.mem_singleton.1 hb]; exact (List.getElem?_eq_some_iff.1 hj).1
  · exact pxH_lt h.h b hb
theorem CpS.fin {W : List Blk} {B : Bf} {be : AV} {js : List Nat} {xl : List Px} (h : CpS W B B.e.length be js xl) (K : Blk) : HB 0 W.length (W.set 1 K) (.agg [.sl 2 B.c.length 0 B.c.length B.c.length, be]) B := by
  have hx : HBx W 2 be js xl B := ⟨h.c, by rw [h.e, List.take_length], h.x, h.h, List.nodup_cons.2 ⟨fun hb => by have := h.l 2 hb; omega, h.n⟩⟩
  have hx2 : HBx (W.set 1 K) 2 be js xl B := hx.same fun b hb => by
    have : b ≠ 1 := by
      rcases List.mem_cons.1 hb with rfl | hb
      · omega
      · have := h.l b hb; omega
    rw [List.getElem?_set_ne (Ne.symm this)]
  exact ⟨2, be, js, xl, rfl, hx2, fun b hb => ⟨Nat.zero_le _, by simpa using hx2.lt b hb⟩⟩
theorem exH.cell {M : List Blk} {be : AV} {js : List Nat} {xl : List Px} (h : exH M be xl js) : be.isCell = true := by
  rcases h with ⟨-, rfl, -⟩ | ⟨j, -, rfl, -⟩ <;> rfl
theorem CpS.next {W W' : List Blk} {B : Bf} {i : Nat} {be be' : AV} {js js' : List Nat} {xl : List Px} {a c : Nat} (h : CpS W B i be js xl) (hi : i < B.e.length)
    (ho : W'[3]? = some ⟨2, [.agg [.sl 2 B.c.length 0 B.c.length B.c.length, be']]⟩)
    (hs : ∀ b, b < W.length → b ≠ 3 → b ∉ js → W'[b]? = W[b]?)
    (ha : W'[a]? = some (stB (B.e.getD i ex0).v.sh)) (hc : W'[c]? = some (stB (B.e.getD i ex0).v.st)) (hla : W.length ≤ a) (hlc : W.length ≤ c) (hac : a ≠ c)
    (hj : (∃ j, js' = [j] ∧ be' = .sl j (i + 1) 0 (i + 1) (i + 1) ∧ W'[j]? = some ⟨5, xl.map pxE ++ [pxE ⟨B.e.getD i ex0, a, c⟩]⟩ ∧ (js = [j] ∨ js = [] ∧ W.length ≤ j ∧ j ≠ a ∧ j ≠ c))) :
    CpS W' B (i + 1) be' js' (xl ++ [⟨B.e.getD i ex0, a, c⟩]) := by
  obtain ⟨j, rfl, rfl, hj1, hj2⟩ := hj
  have hlt := h.lt
  have hlen := h.len (Nat.le_of_lt hi)
  have hnd := List.nodup_append.1 h.n
  have hjn : ∀ b ∈ pxI xl, b ≠ j := by
    intro b hb e
    rcases hj2 with rfl | ⟨-, h1, -, -⟩
    · exact hnd.2.2 j (by simp) b hb e.symm
    · have := hlt.2 b (List.mem_append_right _ hb); omega
  have hja : j ≠ a ∧ j ≠ c := by
    rcases hj2 with rfl | ⟨-, -, h1, h2⟩
    · have := hlt.2 j (by simp); exact ⟨by omega, by omega⟩
    · exact ⟨h1, h2⟩
  have hj4 : 4 ≤ j := by
    rcases hj2 with rfl | ⟨-, h1, -, -⟩
    · exact h.l j (by simp)
    · have := hlt.1; omega
  refine ⟨ho, ?_, ?_, ?_, .inr ⟨j, rfl, by rw [List.length_append, hlen]; rfl, by rw [List.map_append]; exact hj1⟩, pxH_snoc (pxH_same h.h fun b hb => ?_) ha hc, ?_, fun b hb => ?_⟩
  · rw [hs 2 (by omega) (by omega) fun hb => by have := h.l 2 (List.mem_append_left _ hb); omega]; exact h.c
  · rw [hs 1 (by omega) (by omega) fun hb => by have := h.l 1 (List.mem_append_left _ hb); omega]; exact h.r
  · rw [List.map_append, h.e, take_sn hi]; rfl
  · have h4 := h.l b (List.mem_append_right _ hb)
    refine hs b (hlt.2 b (List.mem_append_right _ hb)) (by omega) fun hb2 => hnd.2.2 b hb2 b hb rfl
  · rw [pxI_app, pxI_one]
    show (j :: (pxI xl ++ [a, c])).Nodup
    refine List.nodup_cons.2 ⟨?_, List.nodup_append.2 ⟨hnd.2.1, by simp [hac], fun b hb q hq => ?_⟩⟩
    · intro hm
      rcases List.mem_append.1 hm with hm | hm
      · exact hjn j hm rfl
      · simp at hm; omega
    · have := hlt.2 b (List.mem_append_right _ hb)
      simp at hq
      omega
  · rw [pxI_app, pxI_one] at hb
    simp only [List.mem_append, List.mem_cons, List.not_mem_nil, or_false] at hb
    have := hlt.1
    rcases hb with rfl | hb | rfl | rfl
    · exact hj4
    · exact h.l b (List.mem_append_right _ hb)
    · omega
    · omega
theorem get_set1 {W Z : List Blk} {K : Blk} {p k : Nat} : (W.set p K ++ Z)[W.length + k]? = Z[k]? := by
  rw [List.getElem?_append_right (by rw [List.length_set]; omega), List.length_set, Nat.add_sub_cancel_left]
theorem get_set2 {W Z : List Blk} {K K' : Blk} {p q k : Nat} : ((W.set p K).set q K' ++ Z)[W.length + k]? = Z[k]? := by
  rw [List.getElem?_append_right (by rw [List.length_set, List.length_set]; omega), List.length_set, List.length_set, Nat.add_sub_cancel_left]
set_option maxHeartbeats 4000000 in
set_option maxRecDepth 100000 in
theorem isp_copyBufferX {Sg : FuncId → Option (List AV → Option AV)} (hS : Sound Tryz.prog Sg) (n1 : Sg 130 = none) (B : Bf) (h : bfM B) : ISpec Tryz.prog 99 [bfA 0 B] [] (fun v L' => HB 0 L'.length L' v B) := by
  refine ISpec.intro Tryz.func99 rfl (vc3_sound Tryz.pf hS hS _ _ _ ?_)
  obtain ⟨h1, h2, h3⟩ := h
  repeat' (first | with_reducible first | refine kI (by kernel_rfl) ?_ | simp -implicitDefEqProofs (disch := omega) only [go_sem, Nat.reduceAdd, Nat.reduceSub, reduceCtorEq, Nat.reduceLT, Nat.reduceLeDiff, Nat.reduceEqDiff, ↓reduceIte, List.take_of_length_le, if_pos, if_neg, getD_exs, cnE, cnV, Tryz.ntmps99, Tryz.results99])
  refine LoopQ.mix (fun t0 L0 nn ss => ∃ (i : Nat) (W : List Blk) (be : AV) (js : List Nat) (xl : List Px) (_ : Unit), (∃ x : Nat → AV, ss = ⟨mixL 0 (.k :: .k :: .k :: .k :: .k :: .s :: .k :: .k :: .k :: .k :: .k :: .k :: .k :: .k :: .v (i64 (i : Nat)) :: .s :: .s :: .s :: .s :: .s :: .s :: .s :: .s :: .s :: .s :: .s :: .s :: .s :: .s :: .k :: []) t0 x, W⟩) ∧ (i ≤ B.e.length) ∧ (CpS W B i be js xl) ∧ nn = B.e.length - i) ?_ ?_
  · exact ⟨_, 0, _, .nilS, [], [], (), mixJ rfl rfl, Nat.zero_le _, ⟨rfl, rfl, rfl, rfl, .inl ⟨rfl, rfl, rfl⟩, (fun t ht => by cases ht), by simp [pxI], (fun b hb => by cases hb)⟩, rfl⟩
  · rintro I0 hI0 nn ss ⟨i, W, be, js, xl, _, ⟨y, rfl⟩, g1, g2, rfl⟩
    have g3 := g2.o
    have g4 := g2.lt
    by_cases hi : i < B.e.length
    · have hii : (i : Int) < (B.e.length : Int) := by omega
      have hge := getD_exs (t := 0) hi
      have hvm := h3 i hi
      have hnx := fun W' be' js' a c => g2.next (W' := W') (be' := be') (js' := js') (a := a) (c := c) hi
      generalize B.e.getD i ex0 = x at *
      repeat' (first | with_reducible first | refine kI (by kernel_rfl) ?_ | simp -implicitDefEqProofs (disch := omega) only [go_sem, Nat.reduceAdd, Nat.reduceSub, reduceCtorEq, Nat.reduceLT, Nat.reduceLeDiff, Nat.reduceEqDiff, ↓reduceIte, List.take_of_length_le, if_pos, if_neg, getD_exs, cnE, cnV, Tryz.ntmps99, Tryz.results99,  hii, hge, n1, opQ_none])
      refine InlK_intro rfl rfl can_copyViewI ((o_copyViewI hS x.v hvm).call (by simp only [go_sem, ints]) ?_)
      have g3x := fun Z : List Blk => get_ext g3 Z
      have s3 : ∀ (K : Blk) (Z : List Blk), (W ++ Z).set 3 K = W.set 3 K ++ Z := fun K Z => List.set_append_left _ _ g4.1
      have hxl := g2.len g1
      rcases g2.x with ⟨h0, rfl, rfl⟩ | ⟨j, rfl, rfl, hj⟩
      · obtain rfl : i = 0 := by rw [← hxl, h0]; rfl
        repeat' (first | with_reducible first | refine kI (by kernel_rfl) ?_ | simp -implicitDefEqProofs (disch := omega) only [go_sem, Nat.reduceAdd, Nat.reduceSub, reduceCtorEq, Nat.reduceLT, Nat.reduceLeDiff, Nat.reduceEqDiff, ↓reduceIte, List.take_of_length_le, if_pos, if_neg, getD_exs, cnE, cnV, Tryz.ntmps99, Tryz.results99,  g3x, s3])
        refine ⟨B.e.length - (0 + 1), by omega, hI0 _ _ ⟨0 + 1, _, _, [W.length + 3], _, (), mixJ rfl rfl, hi, hnx _ _ [W.length + 3] (W.length + 1) (W.length + 2) ?_ ?_ ?_ ?_ (by omega) (by omega) (by omega) ⟨W.length + 3, rfl, rfl, ?_, .inr ⟨rfl, by omega, by omega, by omega⟩⟩, rfl⟩⟩
        · exact get_ext (List.getElem?_set_self g4.1) _
        · intro b hb h3 _
          rw [List.getElem?_append_left (by rw [List.length_set]; exact hb), List.getElem?_set_ne (Ne.symm h3)]
        · exact get_set1
        · exact get_set1
        · rw [get_set1, h0]; rfl
      · subst hxl
        have hjx := fun Z : List Blk => get_ext hj Z
        have hjl := (List.getElem?_eq_some_iff.1 hj).1
        have hj4 := g2.l j (by simp)
        have hel : (xl.map pxE).length = xl.length := List.length_map _
        have ea := fun (Z : List Blk) (z : AV) => evApp_pX (z := z) (hjx Z) hel (by omega)
        have s1 : ∀ (K : Blk) (Z : List Blk), (W ++ Z).set j K = W.set j K ++ Z := fun K Z => List.set_append_left _ _ hjl
        have s2 : ∀ (K K' : Blk) (Z : List Blk), (W.set j K ++ Z).set 3 K' = (W.set j K).set 3 K' ++ Z := fun K K' Z => List.set_append_left _ _ (by rw [List.length_set]; exact g4.1)
        have s4 : ∀ (K : Blk) (Z : List Blk), (W.set j K ++ Z)[3]? = some ⟨2, [.agg [.sl 2 B.c.length 0 B.c.length B.c.length, .sl j xl.length 0 xl.length xl.length]]⟩ := fun K Z => (get_ext (by rw [List.getElem?_set_ne (by omega)]; exact g3) Z)
        repeat' (first | with_reducible first | refine kI (by kernel_rfl) ?_ | simp -implicitDefEqProofs (disch := omega) only [go_sem, Nat.reduceAdd, Nat.reduceSub, reduceCtorEq, Nat.reduceLT, Nat.reduceLeDiff, Nat.reduceEqDiff, ↓reduceIte, List.take_of_length_le, if_pos, if_neg, getD_exs, cnE, cnV, Tryz.ntmps99, Tryz.results99,  g3x, ea, s1, s2, s4])
        refine ⟨B.e.length - (xl.length + 1), by omega, hI0 _ _ ⟨xl.length + 1, _, _, [j], _, (), mixJ rfl rfl, hi, hnx _ _ [j] (W.length + 1) (W.length + 2) ?_ ?_ ?_ ?_ (by omega) (by omega) (by omega) ⟨j, rfl, rfl, ?_, .inl rfl⟩, rfl⟩⟩
        · exact get_ext (List.getElem?_set_self (by rw [List.length_set]; exact g4.1)) _
        · intro b hb h3 hbj
          rw [List.getElem?_append_left (by rw [List.length_set, List.length_set]; exact hb), List.getElem?_set_ne (Ne.symm h3), List.getElem?_set_ne (fun e => hbj (by simp [e]))]
        · exact get_set2
        · exact get_set2
        · exact get_ext (by rw [List.getElem?_set_ne (by omega), List.getElem?_set_self hjl]) _
    · obtain rfl : i = B.e.length := by omega
      have g5 := g2.x.cell
      have s1 : ∀ K : Blk, (W.set 1 K)[1]? = some K := fun K => List.getElem?_set_self (by omega)
      repeat' (first | with_reducible first | refine kI (by kernel_rfl) ?_ | simp -implicitDefEqProofs (disch := omega) only [go_sem, Nat.reduceAdd, Nat.reduceSub, reduceCtorEq, Nat.reduceLT, Nat.reduceLeDiff, Nat.reduceEqDiff, ↓reduceIte, List.take_of_length_le, if_pos, if_neg, getD_exs, cnE, cnV, Tryz.ntmps99, Tryz.results99,  g3, g2.r, g5, s1])
      exact g2.fin _
theorem HBx.add {X W' : List Blk} {i : Nat} {be : AV} {js : List Nat} {xl : List Px} {B : Bf} {x : Ex} {a c j' m : Nat} (h : HBx X i be js xl B) (hm : ∀ b ∈ i :: (js ++ pxI xl), m ≤ b) (ha : a < m) (hc : c < m) (hac : a ≠ c) (hs : ∀ b ∈ i :: pxI xl, W'[b]? = X[b]?) (h1 : W'[a]? = some (stB x.v.sh)) (h2 : W'[c]? = some (stB x.v.st))
    (hj : W'[j']? = some ⟨5, xl.map pxE ++ [pxE ⟨x, a, c⟩]⟩) (hj2 : js = [j'] ∨ (js = [] ∧ X.length ≤ j')) (hmX : m ≤ X.length) : HBx W' i (.sl j' (xl.length + 1) 0 (xl.length + 1) (xl.length + 1)) [j'] (xl ++ [⟨x, a, c⟩]) (addB B x) := by
  have hlt := h.lt
  obtain ⟨n1, n2⟩ := List.nodup_cons.1 h.n
  obtain ⟨n3, n4, n5⟩ := List.nodup_append.1 n2
  have hI : ∀ b ∈ pxI xl, b ∈ i :: (js ++ pxI xl) := fun b hb => List.mem_cons_of_mem _ (List.mem_append_right _ hb)
  have hji : j' ≠ i ∧ ∀ b ∈ pxI xl, b ≠ j' := by
    rcases hj2 with rfl | ⟨rfl, h9⟩
    · exact ⟨fun e => n1 (by simp [e]), fun b hb e => n5 j' (by simp) b hb e.symm⟩
    · exact ⟨fun e => by have := hlt i (by simp); omega, fun b hb e => by have := hlt b (hI b hb); omega⟩
  have hjm : m ≤ j' := by
    rcases hj2 with rfl | ⟨rfl, h9⟩
    · exact hm j' (by simp)
    · omega
  refine ⟨(hs i (by simp)).trans h.c, ?_, .inr ⟨j', rfl, by simp, by rw [List.map_append]; exact hj⟩, pxH_snoc (pxH_same h.h fun b hb => hs b (List.mem_cons_of_mem _ hb)) h1 h2, ?_⟩
  · rw [List.map_append, h.e]; rfl
  · rw [pxI_app, pxI_one]
    show (i :: j' :: (pxI xl ++ [a, c])).Nodup
    have him := hm i (by simp)
    refine List.nodup_cons.2 ⟨?_, List.nodup_cons.2 ⟨?_, List.nodup_append.2 ⟨n4, by simp [hac], fun b hb q hq => ?_⟩⟩⟩
    · simp only [List.mem_cons, List.mem_append, List.not_mem_nil, or_false]
      rintro (h | h | h | h)
      · exact hji.1 h.symm
      · exact n1 (List.mem_append_right _ h)
      · omega
      · omega
    · simp only [List.mem_cons, List.mem_append, List.not_mem_nil, or_false]
      rintro (h | h | h)
      · exact hji.2 _ h rfl
      · omega
      · omega
    · have := hm b (hI b hb)
      simp at hq
      omega
def CpX : Prop := ∀ B : Bf, bfM B → ISpec Tryz.prog 99 [bfA 0 B] [] fun v L' => HB 0 L'.length L' v B
set_option maxHeartbeats 4000000 in
set_option maxRecDepth 100000 in
theorem isp_withExportX {Sg : FuncId → Option (List AV → Option AV)} (hS : Sound Tryz.prog Sg) (n1 : Sg 99 = none) (B : Bf) (h : bfM B) (x : Ex) (a c : Nat) (M : List Blk) (ha : M[a]? = some (stB x.v.sh)) (hc : M[c]? = some (stB x.v.st)) (hac : a ≠ c) (lo : Nat) (hla : lo ≤ a) (hlc : lo ≤ c) (hlM : lo ≤ M.length) (hcb : CpX) : ISpec Tryz.prog 129 [bfA 0 B, pxE ⟨x, a, c⟩] M (fun r L' => ∃ Y, L' = M ++ Y ∧ HO lo L'.length L' r (if B.e.length < 8 then some (addB B x) else none)) := by
  refine ISpec.intro Tryz.func129 rfl (vc3_sound Tryz.pf hS hS _ _ _ ?_)
  by_cases h8 : B.e.length < 8
  · have h8' : ¬ (8 : Int) ≤ (B.e.length : Int) := by omega
    rw [if_pos h8]
    repeat' (first | with_reducible first | refine kI (by kernel_rfl) ?_ | simp -implicitDefEqProofs (disch := omega) only [go_sem, Nat.reduceAdd, Nat.reduceSub, reduceCtorEq, Nat.reduceLT, Nat.reduceLeDiff, Nat.reduceEqDiff, ↓reduceIte, List.take_of_length_le, if_pos, if_neg, getD_exs, cnE, cnV, Tryz.ntmps129, Tryz.results129,  h8', n1, opQ_none])
    refine InlK_intro rfl rfl can_copyBufferI (callF (hcb B h) (by simp only [go_sem, ints]) ?_)
    intro v N hv
    obtain ⟨L1, hL1⟩ : ∃ L1, L1 = M ++ [⟨2, [bfA 0 B]⟩, ⟨5, [pxE ⟨x, a, c⟩]⟩, ⟨2, [.agg [.nilS, .nilS]]⟩] := ⟨_, rfl⟩
    obtain ⟨i, be, js, xl, e, hx, hbd⟩ := HB.frame (L := L1) hv
    have hll : L1.length = M.length + 3 := by rw [hL1]; simp
    rw [hL1] at e
    rw [e, ← hL1]
    obtain ⟨X, hX⟩ : ∃ X, L1 ++ N.map (ownB L1.length) = X := ⟨_, rfl⟩
    rw [hX] at hx ⊢
    have x0 : X[M.length + 2]? = some ⟨2, [.agg [.nilS, .nilS]]⟩ := by rw [← hX, hL1]; exact get_ext (by simp) _
    have x1 : X[M.length + 1]? = some ⟨5, [pxE ⟨x, a, c⟩]⟩ := by rw [← hX, hL1]; exact get_ext (by simp) _
    have xM : ∃ Y, X = M ++ Y := ⟨[⟨2, [bfA 0 B]⟩, ⟨5, [pxE ⟨x, a, c⟩]⟩, ⟨2, [.agg [.nilS, .nilS]]⟩] ++ N.map (ownB L1.length), by rw [← hX, hL1, List.append_assoc]⟩
    have hcell := hx.x.cell
    rw [hll] at hbd
    clear hX hL1 hv e
    have y0 := fun Z : List Blk => get_ext x0 Z
    have y1 := fun Z : List Blk => get_ext x1 Z
    have aM := (List.getElem?_eq_some_iff.1 ha).1
    have cM := (List.getElem?_eq_some_iff.1 hc).1
    obtain ⟨YM, hYM⟩ := xM
    have hbm : ∀ b ∈ i :: (js ++ pxI xl), M.length + 3 ≤ b := fun b hb => (hbd b hb).1
    have hXl : M.length + 3 ≤ X.length := by have := hbm i (by simp); have := hx.lt i (by simp); omega
    have sR : ∀ (K : Blk) (Z : List Blk), (X ++ Z).set (M.length + 2) K = X.set (M.length + 2) K ++ Z := fun K Z => List.set_append_left _ _ (by omega)
    have hXa : X[a]? = some (stB x.v.sh) := by rw [hYM]; exact get_ext ha _
    have hXc : X[c]? = some (stB x.v.st) := by rw [hYM]; exact get_ext hc _
    have hpre : ∀ (K : Blk) (Z : List Blk), ∃ Y, X.set (M.length + 2) K ++ Z = M ++ Y := fun K Z => ⟨YM.set 2 K ++ Z, by rw [hYM, List.set_append_right _ _ (by omega), List.append_assoc, Nat.add_sub_cancel_left]⟩
    have hlo : ∀ {W' : List Blk} {j' : Nat}, HBx W' i (.sl j' (xl.length + 1) 0 (xl.length + 1) (xl.length + 1)) [j'] (xl ++ [⟨x, a, c⟩]) (addB B x) → M.length ≤ j' → HO lo W'.length W' (.tup [.agg [.sl i B.c.length 0 B.c.length B.c.length, .sl j' (xl.length + 1) 0 (xl.length + 1) (xl.length + 1)], .bool true]) (some (addB B x)) := fun h hj => ⟨_, rfl, i, _, _, _, rfl, h, fun b hb => ⟨by
      rw [pxI_app, pxI_one] at hb
      simp only [List.mem_cons, List.mem_append, List.not_mem_nil, or_false] at hb
      have q1 := hbm i (by simp)
      rcases hb with rfl | rfl | hb | rfl | rfl
      · omega
      · omega
      · have := hbm b (List.mem_cons_of_mem _ (List.mem_append_right _ hb)); omega
      · omega
      · omega, h.lt b hb⟩⟩
    rcases hx.x with ⟨rfl, rfl, rfl⟩ | ⟨j, rfl, rfl, hj⟩
    · have y3 : ∀ (K : Blk) (Z : List Blk), (X.set (M.length + 2) K ++ Z)[M.length + 2]? = some K := fun K Z => get_ext (List.getElem?_set_self (by omega)) Z
      repeat' (first | with_reducible first | refine kI (by kernel_rfl) ?_ | simp -implicitDefEqProofs (disch := omega) only [go_sem, Nat.reduceAdd, Nat.reduceSub, reduceCtorEq, Nat.reduceLT, Nat.reduceLeDiff, Nat.reduceEqDiff, ↓reduceIte, List.take_of_length_le, if_pos, if_neg, getD_exs, cnE, cnV, Tryz.ntmps129, Tryz.results129,  hcell, y0, y1, sR, y3])
      obtain ⟨Y, hY⟩ := hpre ⟨2, [.agg [.sl i B.c.length 0 B.c.length B.c.length, .sl (X.length + 1) 1 0 1 1]]⟩ [⟨2, [.agg [.sl i B.c.length 0 B.c.length B.c.length, .sl (X.length + 1) 1 0 1 1]]⟩, ⟨5, [pxE ⟨x, a, c⟩]⟩]
      refine ⟨Y, hY, ?_⟩
      have h9 := hlo (W' := X.set (M.length + 2) ⟨2, [.agg [.sl i B.c.length 0 B.c.length B.c.length, .sl (X.length + 1) 1 0 1 1]]⟩ ++ [⟨2, [.agg [.sl i B.c.length 0 B.c.length B.c.length, .sl (X.length + 1) 1 0 1 1]]⟩, ⟨5, [pxE ⟨x, a, c⟩]⟩]) (j' := X.length + 1) (hx.add hbm (by omega) (by omega) hac (fun b hb => ?_) ?_ ?_ get_set1 (.inr ⟨rfl, by omega⟩) hXl) (by omega)
      · rw [List.length_append, List.length_set] at h9
        exact h9
      · have h7 : b ∈ i :: ([] ++ pxI []) := hb
        have h6 := hbm b h7
        rw [List.getElem?_append_left (by rw [List.length_set]; exact hx.lt b h7), List.getElem?_set_ne (by omega)]
      · exact get_ext (by rw [List.getElem?_set_ne (by omega)]; exact hXa) _
      · exact get_ext (by rw [List.getElem?_set_ne (by omega)]; exact hXc) _
    · have hjx := fun Z : List Blk => get_ext hj Z
      have hjl := (List.getElem?_eq_some_iff.1 hj).1
      have hel : (xl.map pxE).length = xl.length := List.length_map _
      have hxl : xl.length ≤ 8 := by have := congrArg List.length hx.e; rw [List.length_map] at this; omega
      have ea := fun (Z : List Blk) (z : AV) => evApp_pX (z := z) (hjx Z) hel (by omega)
      have s1 : ∀ (K : Blk) (Z : List Blk), (X ++ Z).set j K = X.set j K ++ Z := fun K Z => List.set_append_left _ _ hjl
      have hjM := hbm j (by simp)
      have y2 : ∀ (K : Blk) (Z : List Blk), (X.set j K ++ Z)[M.length + 2]? = some ⟨2, [.agg [.nilS, .nilS]]⟩ := fun K Z => get_ext (by rw [List.getElem?_set_ne (by omega)]; exact x0) Z
      have s2 : ∀ (K K' : Blk) (Z : List Blk), (X.set j K ++ Z).set (M.length + 2) K' = (X.set j K).set (M.length + 2) K' ++ Z := fun K K' Z => List.set_append_left _ _ (by rw [List.length_set]; omega)
      have y4 : ∀ (K O : Blk) (Z : List Blk), (X.set j K ++ O :: Z)[X.length]? = some O := fun K O Z => get_set1 (k := 0)
      have s3 : ∀ (K O O' : Blk) (Z : List Blk), (X.set j K ++ O :: Z).set X.length O' = X.set j K ++ O' :: Z := fun K O O' Z => by rw [List.set_append_right _ _ (by rw [List.length_set]; omega), List.length_set, Nat.sub_self]; rfl
      have y5 : ∀ (K K' : Blk) (Z : List Blk), ((X.set j K).set (M.length + 2) K' ++ Z)[M.length + 2]? = some K' := fun K K' Z => get_ext (List.getElem?_set_self (by rw [List.length_set]; omega)) Z
      repeat' (first | with_reducible first | refine kI (by kernel_rfl) ?_ | simp -implicitDefEqProofs (disch := omega) only [go_sem, Nat.reduceAdd, Nat.reduceSub, reduceCtorEq, Nat.reduceLT, Nat.reduceLeDiff, Nat.reduceEqDiff, ↓reduceIte, if_pos, if_neg, Tryz.ntmps129, Tryz.results129,  hcell, y0, y1, sR, ea, s1, y2, s2, y4, s3, y5])
      obtain ⟨E, hE⟩ : ∃ E : Blk, E = ⟨5, xl.map pxE ++ [pxE ⟨x, a, c⟩]⟩ := ⟨_, rfl⟩
      obtain ⟨O, hO⟩ : ∃ O : Blk, O = ⟨2, [.agg [.sl i B.c.length 0 B.c.length B.c.length, .sl j (xl.length + 1) 0 (xl.length + 1) (xl.length + 1)]]⟩ := ⟨_, rfl⟩
      have hY : (X.set j E).set (M.length + 2) O ++ [O] = M ++ ((YM.set (j - M.length) E).set 2 O ++ [O]) := by
        rw [hYM, List.set_append_right _ _ (by omega), List.set_append_right _ _ (by omega), List.append_assoc, Nat.add_sub_cancel_left]
      have h9 := hlo (W' := (X.set j E).set (M.length + 2) O ++ [O]) (j' := j) (hx.add hbm (by omega) (by omega) hac (fun b hb => ?_) ?_ ?_ ?_ (.inl rfl) hXl) (by omega)
      · rw [List.length_append, List.length_set, List.length_set] at h9
        rw [hE, hO] at hY h9
        exact ⟨_, hY, h9⟩
      · have h7 : b ∈ i :: ([j] ++ pxI xl) := by
          rcases List.mem_cons.1 hb with rfl | hb
          · simp
          · exact List.mem_cons_of_mem _ (List.mem_append_right _ hb)
        have h6 := hbm b h7
        have h5 : j ≠ b := fun e => by
          obtain ⟨n1, n2⟩ := List.nodup_cons.1 hx.n
          rcases List.mem_cons.1 hb with h | h
          · exact n1 (by simp [← h, e])
          · exact (List.nodup_append.1 n2).2.2 j (by simp) b h e
        rw [List.getElem?_append_left (by rw [List.length_set, List.length_set]; exact hx.lt b h7), List.getElem?_set_ne (by omega), List.getElem?_set_ne h5]
      · exact get_ext (by rw [List.getElem?_set_ne (by omega), List.getElem?_set_ne (by omega)]; exact hXa) _
      · exact get_ext (by rw [List.getElem?_set_ne (by omega), List.getElem?_set_ne (by omega)]; exact hXc) _
      · rw [← hE]; exact get_ext (by rw [List.getElem?_set_ne (by omega), List.getElem?_set_self hjl]) _
  · have h8' : (8 : Int) ≤ (B.e.length : Int) := by omega
    rw [if_neg h8]
    repeat' (first | with_reducible first | refine kI (by kernel_rfl) ?_ | simp -implicitDefEqProofs (disch := omega) only [go_sem, Nat.reduceAdd, Nat.reduceSub, reduceCtorEq, Nat.reduceLT, Nat.reduceLeDiff, Nat.reduceEqDiff, ↓reduceIte, if_pos, if_neg, Tryz.ntmps129, Tryz.results129,  h8'])
    exact ⟨_, rfl, rfl⟩
end Go.Proofs.YtkmnepmnjpdpkaaGreatDoor
