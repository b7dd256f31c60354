/- Contracts of functions that the laws of this seat call. -/
import Derived.Test.YtkmnepmnjpdpkaaGreatDoorXXe
set_option linter.all false
namespace Go.Proofs.YtkmnepmnjpdpkaaGreatDoor
open Go Go.Ev Go.RowKit Go.Ev.Enc Go.Pl

theorem HBx.cells {X W' : List Blk} {i i' : Nat} {be : AV} {js : List Nat} {xl : List Px} {B : Bf} {C : List Int} {m : Nat} (h : HBx X i be js xl B) (hm : ∀ b ∈ i :: (js ++ pxI xl), m ≤ b) (hs : ∀ b ∈ js ++ pxI xl, W'[b]? = X[b]?) (hi : W'[i']? = some (stB C)) (hi2 : i' < m ∨ X.length ≤ i') : HBx W' i' be js xl ⟨C, B.e⟩ := by
  have hlt := h.lt
  refine ⟨hi, h.e, ?_, pxH_same h.h fun b hb => hs b (List.mem_append_right _ hb), List.nodup_cons.2 ⟨fun hb => ?_, (List.nodup_cons.1 h.n).2⟩⟩
  · rcases h.x with h | ⟨j, rfl, h1, h2⟩
    · exact .inl h
    · exact .inr ⟨j, rfl, h1, (hs j (by simp)).trans h2⟩
  · have := hm i' (List.mem_cons_of_mem _ hb)
    have := hlt i' (List.mem_cons_of_mem _ hb)
    omega
def px0 : Px := ⟨ex0, 0, 0⟩
def cloP (t : Px) : Px := ⟨⟨t.x.p, t.x.v, false⟩, t.a, t.c⟩
theorem pxI_same {xl yl : List Px} (h : xl.map (fun t => (t.a, t.c)) = yl.map fun t => (t.a, t.c)) : pxI xl = pxI yl := by
  have e : ∀ l : List Px, pxI l = (l.map fun t => (t.a, t.c)).flatMap fun p => [p.1, p.2] := fun l => by simp [pxI, List.flatMap_map]
  rw [e, e, h]
theorem pxI_set {xl : List Px} {k : Nat} {t : Px} (hk : k < xl.length) (h1 : t.a = (xl.getD k px0).a) (h2 : t.c = (xl.getD k px0).c) : pxI (xl.set k t) = pxI xl := by
  refine pxI_same ?_
  have hg : xl.getD k px0 = xl[k] := by simp [hk]
  rw [List.map_set, h1, h2, hg]
  apply List.ext_getElem
  · simp
  · intro n a b
    rw [List.getElem_set]
    split
    · rename_i e; subst e; simp
    · rfl
theorem getD_px {xl : List Px} {k : Nat} (h : k < xl.length) : (xl.map pxE).getD k .any = pxE (xl.getD k px0) := by simp [h]
theorem HBx.clo {X W' : List Blk} {i j k : Nat} {xl : List Px} {B : Bf} (h : HBx X i (.sl j xl.length 0 xl.length xl.length) [j] xl B) (hk : k < xl.length) (hs : ∀ b ∈ i :: pxI xl, W'[b]? = X[b]?) (hj : W'[j]? = some ⟨5, (xl.set k (cloP (xl.getD k px0))).map pxE⟩) : HBx W' i (.sl j xl.length 0 xl.length xl.length) [j] (xl.set k (cloP (xl.getD k px0))) ⟨B.c, cloE B.e k⟩ := by
  have hI : pxI (xl.set k (cloP (xl.getD k px0))) = pxI xl := pxI_set hk rfl rfl
  have hxk : (xl.getD k px0).x = B.e.getD k ex0 := by rw [← h.e]; simp [hk]
  refine ⟨(hs i (by simp)).trans h.c, ?_, .inr ⟨j, rfl, by rw [List.length_set], hj⟩, fun t ht => ?_, by rw [hI]; exact h.n⟩
  · rw [List.map_set, h.e]
    show _ = B.e.set k _
    unfold cloP
    dsimp only
    rw [hxk]
  · have key : ∀ t ∈ xl, W'[t.a]? = some (stB t.x.v.sh) ∧ W'[t.c]? = some (stB t.x.v.st) := fun t ht =>
      ⟨(hs _ (List.mem_cons_of_mem _ (mem_pxI.2 ⟨t, ht, .inl rfl⟩))).trans (h.h t ht).1, (hs _ (List.mem_cons_of_mem _ (mem_pxI.2 ⟨t, ht, .inr rfl⟩))).trans (h.h t ht).2⟩
    rcases List.mem_or_eq_of_mem_set ht with ht | rfl
    · exact key t ht
    · exact key (xl.getD k px0) (mem_L hk)
def FilI : Prop := ∀ (m : List Int) (v : Vi) (y : Int), memB m v → OSpec Tryz.prog 132 [ints 0 m, .agg [i64 v.b, ints 0 v.sh, ints 0 v.st], i64 y] (icR (filO m v y)) (icN (filO m v y))
def CpyI : Prop := ∀ (m : List Int) (a b : Vi), mB2 m a b → OSpec Tryz.prog 133 [ints 0 m, .agg [i64 a.b, ints 0 a.sh, ints 0 a.st], .agg [i64 b.b, ints 0 b.sh, ints 0 b.st]] (icR (cpyO m a b)) (icN (cpyO m a b))
set_option maxHeartbeats 4000000 in
set_option maxRecDepth 100000 in
theorem isp_ReleaseExportX {Sg : FuncId → Option (List AV → Option AV)} (hS : Sound Tryz.prog Sg) (ho : Sg 97 = some (F2 gOpn)) (hk : Sg 134 = some (F2 gKidT)) (n1 : Sg 99 = none) (B : Bf) (id : Int) (h : bfB B) (hcb : CpX) : ISpec Tryz.prog 96 [bfA 0 B, i64 id] [] (fun r L' => HO 0 L'.length L' r (relXO B id)) := by
  refine ISpec.intro Tryz.func96 rfl (vc3_sound Tryz.pf hS hS _ _ _ ?_)
  have q2 := gOpn_eq h id
  unfold relXO
  cases e1 : bufOK B with
  | false =>
    rw [e1] at q2
    rw [opt_f (by simp)]
    repeat' (first | with_reducible first | refine kI (by kernel_rfl) ?_ | refine kN (by kernel_rfl) ?_ | simp -implicitDefEqProofs (disch := omega) only [go_sem, Nat.reduceAdd, Nat.reduceSub, reduceCtorEq, Nat.reduceLT, Nat.reduceLeDiff, Nat.reduceEqDiff, ↓reduceIte, if_pos, if_neg, Tryz.ntmps96, Tryz.results96,  ho, q2])
    exact rfl
  | true =>
    cases e2 : opnB B id with
    | false =>
      rw [e1, e2] at q2
      rw [opt_f (by simp)]
      repeat' (first | with_reducible first | refine kI (by kernel_rfl) ?_ | refine kN (by kernel_rfl) ?_ | simp -implicitDefEqProofs (disch := omega) only [go_sem, Nat.reduceAdd, Nat.reduceSub, reduceCtorEq, Nat.reduceLT, Nat.reduceLeDiff, Nat.reduceEqDiff, ↓reduceIte, List.take_of_length_le, if_pos, if_neg, getD_exs, cnE, cnV, Tryz.ntmps96, Tryz.results96,  ho, q2])
      exact rfl
    | true =>
      rw [e1, e2] at q2
      obtain ⟨k, rfl, hkk, hko⟩ := opnB_iff.1 e2
      have q3 := gKidT_eq h (k : Int)
      rw [if_pos ⟨e1, by unfold inR; simp; omega⟩] at q3
      rw [Int.toNat_natCast]
      by_cases e3 : kidF B (k : Int) = []
      · rw [e3] at q3
        rw [opt_t ⟨rfl, rfl, e3⟩]
        repeat' (first | with_reducible first | refine kI (by kernel_rfl) ?_ | refine kN (by kernel_rfl) ?_ | simp -implicitDefEqProofs (disch := omega) only [go_sem, Nat.reduceAdd, Nat.reduceSub, reduceCtorEq, Nat.reduceLT, Nat.reduceLeDiff, Nat.reduceEqDiff, ↓reduceIte, List.take_of_length_le, if_pos, if_neg, getD_exs, cnE, cnV, Tryz.ntmps96, Tryz.results96,  ho, q2, hk, q3, n1, opQ_none])
        refine InlK_intro rfl rfl can_copyBufferI (callF (hcb B (bfM_of e1)) (by simp only [go_sem, ints]) ?_)
        intro v N hv
        obtain ⟨L1, hL1⟩ : ∃ L1, L1 = ([⟨2, [bfA 0 B]⟩, ⟨2, [.agg [.nilS, .nilS]]⟩] : List Blk) := ⟨_, rfl⟩
        obtain ⟨i, be, js, xl, e, hx, hbd⟩ := HB.frame (L := L1) hv
        have hll : L1.length = 2 := by rw [hL1]; rfl
        rw [hL1] at e
        rw [e, ← hL1]
        obtain ⟨X, hX⟩ : ∃ X, L1 ++ N.map (ownB L1.length) = X := ⟨_, rfl⟩
        rw [hX] at hx ⊢
        have x0 : X[1]? = some ⟨2, [.agg [.nilS, .nilS]]⟩ := by rw [← hX, hL1]; rfl
        rw [hll] at hbd
        clear hX hL1 hv e
        have hbm : ∀ b ∈ i :: (js ++ pxI xl), 2 ≤ b := fun b hb => (hbd b hb).1
        have hkx : k < xl.length := by have := congrArg List.length hx.e; rw [List.length_map] at this; omega
        rcases hx.x with ⟨rfl, -, -⟩ | ⟨j, rfl, rfl, hj⟩
        · simp at hkx
        have hjx := fun Z : List Blk => get_ext hj Z
        have hjl := (List.getElem?_eq_some_iff.1 hj).1
        have hjM := hbm j (by simp)
        have hge := getD_px hkx
        have hel : (xl.map pxE).length = xl.length := List.length_map _
        have hes : (xl.map pxE).set k (.agg [.int .i64 (xl.getD k px0).x.p, .int .i64 (xl.getD k px0).x.v.b, .sl (xl.getD k px0).a (xl.getD k px0).x.v.sh.length 0 (xl.getD k px0).x.v.sh.length (xl.getD k px0).x.v.sh.length, .sl (xl.getD k px0).c (xl.getD k px0).x.v.st.length 0 (xl.getD k px0).x.v.st.length (xl.getD k px0).x.v.st.length, .bool false]) = (xl.set k (cloP (xl.getD k px0))).map pxE := by rw [List.map_set]; rfl
        have s1 : ∀ (K : Blk) (Z : List Blk), (X ++ Z).set j K = X.set j K ++ Z := fun K Z => List.set_append_left _ _ hjl
        have y4 : ∀ (K O : Blk) (Z : List Blk), (X.set j K ++ O :: Z)[X.length]? = some O := fun K O Z => get_set1 (k := 0)
        have y2 : ∀ (K : Blk) (Z : List Blk), (X.set j K ++ Z)[1]? = some ⟨2, [.agg [.nilS, .nilS]]⟩ := fun K Z => get_ext (by rw [List.getElem?_set_ne (by omega)]; exact x0) Z
        have s2 : ∀ (K K' : Blk) (Z : List Blk), (X.set j K ++ Z).set 1 K' = (X.set j K).set 1 K' ++ Z := fun K K' Z => List.set_append_left _ _ (by rw [List.length_set]; have := (List.getElem?_eq_some_iff.1 x0).1; omega)
        have y5 : ∀ (K K' : Blk) (Z : List Blk), ((X.set j K).set 1 K' ++ Z)[1]? = some K' := fun K K' Z => get_ext (List.getElem?_set_self (by rw [List.length_set]; have := (List.getElem?_eq_some_iff.1 x0).1; omega)) Z
        repeat' (first | with_reducible first | refine kI (by kernel_rfl) ?_ | refine kN (by kernel_rfl) ?_ | simp -implicitDefEqProofs (disch := omega) only [go_sem, Nat.reduceAdd, Nat.reduceSub, reduceCtorEq, Nat.reduceLT, Nat.reduceLeDiff, Nat.reduceEqDiff, ↓reduceIte, if_pos, if_neg, Tryz.ntmps96, Tryz.results96,  hjx, hge, hel, hes, s1, y4, y2, s2, y5])
        obtain ⟨E, hE⟩ : ∃ E : Blk, E = ⟨5, (xl.set k (cloP (xl.getD k px0))).map pxE⟩ := ⟨_, rfl⟩
        obtain ⟨O, hO⟩ : ∃ O : Blk, O = ⟨2, [.agg [.sl i B.c.length 0 B.c.length B.c.length, .sl j xl.length 0 xl.length xl.length]]⟩ := ⟨_, rfl⟩
        have hx2 := hx.clo (W' := (X.set j E).set 1 O ++ [O]) hkx (fun b hb => ?_) (by rw [← hE]; exact get_ext (by rw [List.getElem?_set_ne (by omega), List.getElem?_set_self hjl]) _)
        · rw [← hE, ← hO]
          exact ⟨_, rfl, i, _, _, _, rfl, hx2, fun b hb => ⟨Nat.zero_le _, by simpa using hx2.lt b hb⟩⟩
        · have h7 : b ∈ i :: ([j] ++ pxI xl) := by
            rcases List.mem_cons.1 hb with rfl | hb
            · simp
            · exact List.mem_cons_of_mem _ (List.mem_append_right _ hb)
          have h6 := hbm b h7
          have h5 : j ≠ b := fun e => by
            obtain ⟨n1, n2⟩ := List.nodup_cons.1 hx.n
            rcases List.mem_cons.1 hb with h | h
            · exact n1 (by simp [← h, e])
            · exact (List.nodup_append.1 n2).2.2 j (by simp) b h e
          rw [List.getElem?_append_left (by rw [List.length_set, List.length_set]; exact hx.lt b h7), List.getElem?_set_ne (by omega), List.getElem?_set_ne h5]
      · have e3' : (0 : Int) < ((kidF B (k : Int)).length : Int) := by
          have := List.length_pos_iff.2 e3
          omega
        rw [opt_f (by simp [e3])]
        repeat' (first | with_reducible first | refine kI (by kernel_rfl) ?_ | refine kN (by kernel_rfl) ?_ | simp -implicitDefEqProofs (disch := omega) only [go_sem, Nat.reduceAdd, Nat.reduceSub, reduceCtorEq, Nat.reduceLT, Nat.reduceLeDiff, Nat.reduceEqDiff, ↓reduceIte, if_pos, if_neg, Tryz.ntmps96, Tryz.results96,  ho, q2, hk, q3, e3'])
        exact rfl
set_option maxHeartbeats 4000000 in
set_option maxRecDepth 100000 in
theorem isp_FillExportX {Sg : FuncId → Option (List AV → Option AV)} (hS : Sound Tryz.prog Sg) (ho : Sg 97 = some (F2 gOpn)) (n2 : Sg 132 = none) (n1 : Sg 99 = none) (B : Bf) (id x : Int) (h : bfB B) (hcb : CpX) (hfv : FilI) : ISpec Tryz.prog 94 [bfA 0 B, i64 id, i64 x] [] (fun r L' => HO 0 L'.length L' r (filXO B id x)) := by
  refine ISpec.intro Tryz.func94 rfl (vc3_sound Tryz.pf hS hS _ _ _ ?_)
  have q2 := gOpn_eq h id
  unfold filXO
  cases e1 : bufOK B with
  | false =>
    rw [e1] at q2
    rw [opt_f (by simp)]
    repeat' (first | with_reducible first | refine kI (by kernel_rfl) ?_ | refine kN (by kernel_rfl) ?_ | simp -implicitDefEqProofs (disch := omega) only [go_sem, Nat.reduceAdd, Nat.reduceSub, reduceCtorEq, Nat.reduceLT, Nat.reduceLeDiff, Nat.reduceEqDiff, ↓reduceIte, if_pos, if_neg, Tryz.ntmps94, Tryz.results94,  ho, q2])
    exact rfl
  | true =>
    cases e2 : opnB B id with
    | false =>
      rw [e1, e2] at q2
      rw [opt_f (by simp)]
      repeat' (first | with_reducible first | refine kI (by kernel_rfl) ?_ | refine kN (by kernel_rfl) ?_ | simp -implicitDefEqProofs (disch := omega) only [go_sem, Nat.reduceAdd, Nat.reduceSub, reduceCtorEq, Nat.reduceLT, Nat.reduceLeDiff, Nat.reduceEqDiff, ↓reduceIte, if_pos, if_neg, Tryz.ntmps94, Tryz.results94,  ho, q2])
      exact rfl
    | true =>
      rw [e1, e2] at q2
      obtain ⟨k, rfl, hk, hko⟩ := opnB_iff.1 e2
      have hge := getD_exs (t := 0) hk
      have hh := opn_hold e1 hk hko
      have hv := (exOK_iff.1 ((bufOK_iff.1 e1).2.2 k hk)).2.1
      have h60 := (memOK_iff.1 (bufOK_iff.1 e1).1).1
      have q3 := hfv B.c (B.e.getD k ex0).v x ⟨by omega, ok_viB hv⟩
      unfold filO at q3
      have hC : filC B (k : Int) x = stoT B.c (offF (B.e.getD k ex0).v) (repV (B.e.getD k ex0).v x) (offF (B.e.getD k ex0).v).length := rfl
      rw [← hC] at q3
      generalize filC B (k : Int) x = C at *
      cases e3 : inR x 0 255 with
      | false =>
        rw [if_neg (by rw [e3]; simp)] at q3
        rw [opt_f (by simp)]
        repeat' (first | with_reducible first | refine kI (by kernel_rfl) ?_ | simp -implicitDefEqProofs (disch := omega) only [go_sem, Nat.reduceAdd, Nat.reduceSub, reduceCtorEq, Nat.reduceLT, Nat.reduceLeDiff, Nat.reduceEqDiff, ↓reduceIte, if_pos, if_neg, Tryz.ntmps94, Tryz.results94,  ho, q2])
        refine DrawQ.any [([0, 1, 2, 3, 4, 5, 6, 7, 8], 9)] [10, 11, 12, 13, 14] [] (by kernel_rfl) ?_
        repeat' (first | with_reducible first | refine kI (by kernel_rfl) ?_ | simp -implicitDefEqProofs (disch := omega) only [go_sem, Nat.reduceAdd, Nat.reduceSub, reduceCtorEq, Nat.reduceLT, Nat.reduceLeDiff, Nat.reduceEqDiff, ↓reduceIte, if_pos, if_neg, Tryz.ntmps94, Tryz.results94,  hge, n2, opQ_none])
        refine InlK_intro rfl rfl can_FillViewI (q3.call (by simp only [go_sem, ints]) ?_)
        simp only [icR, icN]
        repeat' (first | with_reducible first | refine kI (by kernel_rfl) ?_ | simp -implicitDefEqProofs (disch := omega) only [go_sem, Nat.reduceAdd, Nat.reduceSub, reduceCtorEq, Nat.reduceLT, Nat.reduceLeDiff, Nat.reduceEqDiff, ↓reduceIte, if_pos, if_neg, Tryz.ntmps94, Tryz.results94])
        exact rfl
      | true =>
        rw [if_pos ⟨hh, e3⟩] at q3
        rw [opt_t ⟨rfl, rfl, rfl⟩]
        repeat' (first | with_reducible first | refine kI (by kernel_rfl) ?_ | simp -implicitDefEqProofs (disch := omega) only [go_sem, Nat.reduceAdd, Nat.reduceSub, reduceCtorEq, Nat.reduceLT, Nat.reduceLeDiff, Nat.reduceEqDiff, ↓reduceIte, if_pos, if_neg, Tryz.ntmps94, Tryz.results94,  ho, q2])
        refine DrawQ.any [([0, 1, 2, 3, 4, 5, 6, 7, 8], 9)] [10, 11, 12, 13, 14] [] (by kernel_rfl) ?_
        repeat' (first | with_reducible first | refine kI (by kernel_rfl) ?_ | simp -implicitDefEqProofs (disch := omega) only [go_sem, Nat.reduceAdd, Nat.reduceSub, reduceCtorEq, Nat.reduceLT, Nat.reduceLeDiff, Nat.reduceEqDiff, ↓reduceIte, if_pos, if_neg, Tryz.ntmps94, Tryz.results94,  hge, n2, opQ_none])
        refine InlK_intro rfl rfl can_FillViewI (q3.call (by simp only [go_sem, ints]) ?_)
        simp only [icR, icN]
        repeat' (first | with_reducible first | refine kI (by kernel_rfl) ?_ | simp -implicitDefEqProofs (disch := omega) only [go_sem, Nat.reduceAdd, Nat.reduceSub, reduceCtorEq, Nat.reduceLT, Nat.reduceLeDiff, Nat.reduceEqDiff, ↓reduceIte, if_pos, if_neg, Tryz.ntmps94, Tryz.results94,  n1, opQ_none])
        refine InlK_intro rfl rfl can_copyBufferI (callF (hcb B (bfM_of e1)) (by simp only [go_sem, ints]) ?_)
        intro v N hv
        obtain ⟨L1, hL1⟩ : ∃ L1, L1 = ([⟨2, [bfA 0 B]⟩, ⟨2, [.agg [.nilS, .nilS]]⟩, stB C] : List Blk) := ⟨_, rfl⟩
        obtain ⟨i, be, js, xl, e, hx, hbd⟩ := HB.frame (L := L1) hv
        have hll : L1.length = 3 := by rw [hL1]; rfl
        rw [hL1] at e
        rw [e, ← hL1]
        obtain ⟨X, hX⟩ : ∃ X, L1 ++ N.map (ownB L1.length) = X := ⟨_, rfl⟩
        rw [hX] at hx ⊢
        have x0 : X[1]? = some ⟨2, [.agg [.nilS, .nilS]]⟩ := by rw [← hX, hL1]; rfl
        have x1 : X[2]? = some (stB C) := by rw [← hX, hL1]; rfl
        rw [hll] at hbd
        clear hX hL1 hv e
        have hbm : ∀ b ∈ i :: (js ++ pxI xl), 3 ≤ b := fun b hb => (hbd b hb).1
        have hcell := hx.x.cell
        have xl1 := (List.getElem?_eq_some_iff.1 x0).1
        have y0 := fun Z : List Blk => get_ext x0 Z
        have s0 : ∀ (K : Blk) (Z : List Blk), (X ++ Z).set 1 K = X.set 1 K ++ Z := fun K Z => List.set_append_left _ _ xl1
        have y1 : ∀ (K : Blk) (Z : List Blk), (X.set 1 K ++ Z)[1]? = some K := fun K Z => get_ext (List.getElem?_set_self xl1) Z
        repeat' (first | with_reducible first | refine kI (by kernel_rfl) ?_ | simp -implicitDefEqProofs (disch := omega) only [go_sem, Nat.reduceAdd, Nat.reduceSub, reduceCtorEq, Nat.reduceLT, Nat.reduceLeDiff, Nat.reduceEqDiff, ↓reduceIte, if_pos, if_neg, Tryz.ntmps94, Tryz.results94,  hcell, y0, s0, y1])
        obtain ⟨O, hO⟩ : ∃ O : Blk, O = ⟨2, [.agg [.sl 2 C.length 0 C.length C.length, be]]⟩ := ⟨_, rfl⟩
        have hx2 := hx.cells (W' := X.set 1 O ++ [O]) (i' := 2) (C := C) hbm (fun b hb => ?_) (get_ext (by rw [List.getElem?_set_ne (by omega)]; exact x1) _) (.inl (by omega))
        · rw [← hO]
          exact ⟨_, rfl, 2, _, _, _, rfl, hx2, fun b hb => ⟨Nat.zero_le _, by simpa using hx2.lt b hb⟩⟩
        · have h7 : b ∈ i :: (js ++ pxI xl) := List.mem_cons_of_mem _ hb
          have h6 := hbm b h7
          rw [List.getElem?_append_left (by rw [List.length_set]; exact hx.lt b h7), List.getElem?_set_ne (by omega)]
set_option maxHeartbeats 4000000 in
set_option maxRecDepth 100000 in
theorem isp_CopyExportX {Sg : FuncId → Option (List AV → Option AV)} (hS : Sound Tryz.prog Sg) (ho : Sg 97 = some (F2 gOpn)) (n2 : Sg 133 = none) (n1 : Sg 99 = none) (B : Bf) (a b : Int) (h : bfB B) (hcb : CpX) (hcv : CpyI) : ISpec Tryz.prog 95 [bfA 0 B, i64 a, i64 b] [] (fun r L' => HO 0 L'.length L' r (cpyXO B a b)) := by
  refine ISpec.intro Tryz.func95 rfl (vc3_sound Tryz.pf hS hS _ _ _ ?_)
  have q2 := gOpn_eq h a
  have q3 := gOpn_eq h b
  unfold cpyXO
  cases e1 : bufOK B with
  | false =>
    rw [e1] at q2
    rw [opt_f (by simp)]
    repeat' (first | with_reducible first | refine kI (by kernel_rfl) ?_ | refine kN (by kernel_rfl) ?_ | simp -implicitDefEqProofs (disch := omega) only [go_sem, Nat.reduceAdd, Nat.reduceSub, reduceCtorEq, Nat.reduceLT, Nat.reduceLeDiff, Nat.reduceEqDiff, ↓reduceIte, if_pos, if_neg, Tryz.ntmps95, Tryz.results95,  ho, q2])
    exact rfl
  | true =>
    cases e2 : opnB B a with
    | false =>
      rw [e1, e2] at q2
      rw [opt_f (by simp)]
      repeat' (first | with_reducible first | refine kI (by kernel_rfl) ?_ | refine kN (by kernel_rfl) ?_ | simp -implicitDefEqProofs (disch := omega) only [go_sem, Nat.reduceAdd, Nat.reduceSub, reduceCtorEq, Nat.reduceLT, Nat.reduceLeDiff, Nat.reduceEqDiff, ↓reduceIte, if_pos, if_neg, Tryz.ntmps95, Tryz.results95,  ho, q2])
      exact rfl
    | true =>
      rw [e1, e2] at q2
      cases e3 : opnB B b with
      | false =>
        rw [e1, e3] at q3
        rw [opt_f (by simp)]
        repeat' (first | with_reducible first | refine kI (by kernel_rfl) ?_ | refine kN (by kernel_rfl) ?_ | simp -implicitDefEqProofs (disch := omega) only [go_sem, Nat.reduceAdd, Nat.reduceSub, reduceCtorEq, Nat.reduceLT, Nat.reduceLeDiff, Nat.reduceEqDiff, ↓reduceIte, if_pos, if_neg, Tryz.ntmps95, Tryz.results95,  ho, q2, q3])
        exact rfl
      | true =>
        rw [e1, e3] at q3
        obtain ⟨k, rfl, hk, hko⟩ := opnB_iff.1 e2
        obtain ⟨j, rfl, hj, hjo⟩ := opnB_iff.1 e3
        have hge := getD_exs (t := 0) hk
        have hgj := getD_exs (t := 0) hj
        have hv := (exOK_iff.1 ((bufOK_iff.1 e1).2.2 k hk)).2.1
        have hw := (exOK_iff.1 ((bufOK_iff.1 e1).2.2 j hj)).2.1
        have h60 := (memOK_iff.1 (bufOK_iff.1 e1).1).1
        have q4 := hcv B.c (B.e.getD k ex0).v (B.e.getD j ex0).v ⟨by omega, ok_viB hv, ok_viB hw⟩
        unfold cpyO at q4
        have e5 : vwB B (k : Int) = (B.e.getD k ex0).v := rfl
        have e6 : vwB B (j : Int) = (B.e.getD j ex0).v := rfl
        rw [e5, e6]
        cases e4 : cpyB B.c (B.e.getD k ex0).v (B.e.getD j ex0).v with
        | false =>
          rw [e4, if_neg (by simp)] at q4
          rw [opt_f (by simp)]
          repeat' (first | with_reducible first | refine kI (by kernel_rfl) ?_ | simp -implicitDefEqProofs (disch := omega) only [go_sem, Nat.reduceAdd, Nat.reduceSub, reduceCtorEq, Nat.reduceLT, Nat.reduceLeDiff, Nat.reduceEqDiff, ↓reduceIte, if_pos, if_neg, Tryz.ntmps95, Tryz.results95,  ho, q2, q3])
          refine DrawQ.any [([0, 1, 2, 3, 4, 5, 6, 7, 8, 9, 10, 11, 12, 13], 14)] [15, 16, 17, 18, 19] [] (by kernel_rfl) ?_
          repeat' (first | with_reducible first | refine kI (by kernel_rfl) ?_ | simp -implicitDefEqProofs (disch := omega) only [go_sem, Nat.reduceAdd, Nat.reduceSub, reduceCtorEq, Nat.reduceLT, Nat.reduceLeDiff, Nat.reduceEqDiff, ↓reduceIte, if_pos, if_neg, Tryz.ntmps95, Tryz.results95,  hge, hgj, n2, opQ_none])
          refine InlK_intro rfl rfl can_CopyViewI (q4.call (by simp only [go_sem, ints]) ?_)
          simp only [icR, icN]
          repeat' (first | with_reducible first | refine kI (by kernel_rfl) ?_ | simp -implicitDefEqProofs (disch := omega) only [go_sem, Nat.reduceAdd, Nat.reduceSub, reduceCtorEq, Nat.reduceLT, Nat.reduceLeDiff, Nat.reduceEqDiff, ↓reduceIte, if_pos, if_neg, Tryz.ntmps95, Tryz.results95])
          exact rfl
        | true =>
          rw [e4, if_pos rfl] at q4
          rw [opt_t ⟨rfl, rfl, rfl, rfl⟩]
          generalize stoV B.c (B.e.getD k ex0).v (tkn B.c (offF (B.e.getD j ex0).v)) = C at *
          repeat' (first | with_reducible first | refine kI (by kernel_rfl) ?_ | simp -implicitDefEqProofs (disch := omega) only [go_sem, Nat.reduceAdd, Nat.reduceSub, reduceCtorEq, Nat.reduceLT, Nat.reduceLeDiff, Nat.reduceEqDiff, ↓reduceIte, if_pos, if_neg, Tryz.ntmps95, Tryz.results95,  ho, q2, q3])
          refine DrawQ.any [([0, 1, 2, 3, 4, 5, 6, 7, 8, 9, 10, 11, 12, 13], 14)] [15, 16, 17, 18, 19] [] (by kernel_rfl) ?_
          repeat' (first | with_reducible first | refine kI (by kernel_rfl) ?_ | simp -implicitDefEqProofs (disch := omega) only [go_sem, Nat.reduceAdd, Nat.reduceSub, reduceCtorEq, Nat.reduceLT, Nat.reduceLeDiff, Nat.reduceEqDiff, ↓reduceIte, if_pos, if_neg, Tryz.ntmps95, Tryz.results95,  hge, hgj, n2, opQ_none])
          refine InlK_intro rfl rfl can_CopyViewI (q4.call (by simp only [go_sem, ints]) ?_)
          simp only [icR, icN]
          repeat' (first | with_reducible first | refine kI (by kernel_rfl) ?_ | simp -implicitDefEqProofs (disch := omega) only [go_sem, Nat.reduceAdd, Nat.reduceSub, reduceCtorEq, Nat.reduceLT, Nat.reduceLeDiff, Nat.reduceEqDiff, ↓reduceIte, if_pos, if_neg, Tryz.ntmps95, Tryz.results95,  n1, opQ_none])
          refine InlK_intro rfl rfl can_copyBufferI (callF (hcb B (bfM_of e1)) (by simp only [go_sem, ints]) ?_)
          intro v N hv
          obtain ⟨L1, hL1⟩ : ∃ L1, L1 = ([⟨2, [bfA 0 B]⟩, ⟨2, [.agg [.nilS, .nilS]]⟩, stB C] : List Blk) := ⟨_, rfl⟩
          obtain ⟨i, be, js, xl, e, hx, hbd⟩ := HB.frame (L := L1) hv
          have hll : L1.length = 3 := by rw [hL1]; rfl
          rw [hL1] at e
          rw [e, ← hL1]
          obtain ⟨X, hX⟩ : ∃ X, L1 ++ N.map (ownB L1.length) = X := ⟨_, rfl⟩
          rw [hX] at hx ⊢
          have x0 : X[1]? = some ⟨2, [.agg [.nilS, .nilS]]⟩ := by rw [← hX, hL1]; rfl
          have x1 : X[2]? = some (stB C) := by rw [← hX, hL1]; rfl
          rw [hll] at hbd
          clear hX hL1 hv e
          have hbm : ∀ b ∈ i :: (js ++ pxI xl), 3 ≤ b := fun b hb => (hbd b hb).1
          have hcell := hx.x.cell
          have xl1 := (List.getElem?_eq_some_iff.1 x0).1
          have y0 := fun Z : List Blk => get_ext x0 Z
          have s0 : ∀ (K : Blk) (Z : List Blk), (X ++ Z).set 1 K = X.set 1 K ++ Z := fun K Z => List.set_append_left _ _ xl1
          have y1 : ∀ (K : Blk) (Z : List Blk), (X.set 1 K ++ Z)[1]? = some K := fun K Z => get_ext (List.getElem?_set_self xl1) Z
          repeat' (first | with_reducible first | refine kI (by kernel_rfl) ?_ | simp -implicitDefEqProofs (disch := omega) only [go_sem, Nat.reduceAdd, Nat.reduceSub, reduceCtorEq, Nat.reduceLT, Nat.reduceLeDiff, Nat.reduceEqDiff, ↓reduceIte, if_pos, if_neg, Tryz.ntmps95, Tryz.results95,  hcell, y0, s0, y1])
          obtain ⟨O, hO⟩ : ∃ O : Blk, O = ⟨2, [.agg [.sl 2 C.length 0 C.length C.length, be]]⟩ := ⟨_, rfl⟩
          have hx2 := hx.cells (W' := X.set 1 O ++ [O]) (i' := 2) (C := C) hbm (fun b hb => ?_) (get_ext (by rw [List.getElem?_set_ne (by omega)]; exact x1) _) (.inl (by omega))
          · rw [← hO]
            exact ⟨_, rfl, 2, _, _, _, rfl, hx2, fun b hb => ⟨Nat.zero_le _, by simpa using hx2.lt b hb⟩⟩
          · have h7 : b ∈ i :: (js ++ pxI xl) := List.mem_cons_of_mem _ hb
            have h6 := hbm b h7
            rw [List.getElem?_append_left (by rw [List.length_set]; exact hx.lt b h7), List.getElem?_set_ne (by omega)]
set_option maxHeartbeats 4000000 in
set_option maxRecDepth 100000 in
theorem isp_ResizeBufferX {Sg : FuncId → Option (List AV → Option AV)} (hS : Sound Tryz.prog Sg) (hb : Sg 61 = some (F1 gBuf)) (ha : Sg 60 = some (F1 gAreCells)) (ho : Sg 26 = some (F1 gOpF)) (n1 : Sg 99 = none) (B : Bf) (n : Int) (h : bfB B) (hcb : CpX) : ISpec Tryz.prog 91 [bfA 0 B, i64 n] [] (fun r L' => HO 0 L'.length L' r (rszXO B n)) := by
  refine ISpec.intro Tryz.func91 rfl (vc3_sound Tryz.pf hS hS _ _ _ ?_)
  have q1 := gBuf_eq h
  have q2 := gOpF_eq h
  unfold rszXO
  cases e1 : bufOK B with
  | false =>
    rw [e1] at q1
    rw [opt_f (by simp)]
    repeat' (first | with_reducible first | refine kI (by kernel_rfl) ?_ | refine kN (by kernel_rfl) ?_ | simp -implicitDefEqProofs (disch := omega) only [go_sem, Nat.reduceAdd, Nat.reduceSub, reduceCtorEq, Nat.reduceLT, Nat.reduceLeDiff, Nat.reduceEqDiff, ↓reduceIte, if_pos, if_neg, Tryz.ntmps91, Tryz.results91,  hb, q1])
    exact rfl
  | true =>
    rw [e1] at q1
    rw [e1, if_pos rfl] at q2
    cases e2 : inR n 0 60 with
    | false =>
      have q3 := gAreCells_eq n
      rw [e2] at q3
      rw [opt_f (by simp)]
      repeat' (first | with_reducible first | refine kI (by kernel_rfl) ?_ | refine kN (by kernel_rfl) ?_ | simp -implicitDefEqProofs (disch := omega) only [go_sem, Nat.reduceAdd, Nat.reduceSub, reduceCtorEq, Nat.reduceLT, Nat.reduceLeDiff, Nat.reduceEqDiff, ↓reduceIte, List.take_of_length_le, if_pos, if_neg, getD_exs, cnE, cnV, Tryz.ntmps91, Tryz.results91,  hb, q1, ha, q3])
      exact rfl
    | true =>
      have q3 := gAreCells_eq n
      rw [e2] at q3
      unfold inR at e2
      simp only [Bool.and_eq_true, decide_eq_true_eq] at e2
      obtain ⟨m, rfl⟩ : ∃ m : Nat, n = m := ⟨n.toNat, by omega⟩
      rw [Int.toNat_natCast]
      have hm : m ≤ 60 := by omega
      by_cases e3 : opF B = []
      · rw [e3] at q2
        rw [opt_t ⟨rfl, rfl, e3⟩]
        have hov := ov_rsz B.c m
        repeat' (first | with_reducible first | refine kI (by kernel_rfl) ?_ | simp -implicitDefEqProofs (disch := omega) only [go_sem, Nat.reduceAdd, Nat.reduceSub, reduceCtorEq, Nat.reduceLT, Nat.reduceLeDiff, Nat.reduceEqDiff, ↓reduceIte, List.take_of_length_le, if_pos, if_neg, getD_exs, cnE, cnV, Tryz.ntmps91, Tryz.results91,  hb, q1, ha, q3, ho, q2, n1, opQ_none])
        refine InlK_intro rfl rfl can_copyBufferI (callF (hcb B (bfM_of e1)) (by simp only [go_sem, ints]) ?_)
        intro v N hv
        obtain ⟨L1, hL1⟩ : ∃ L1, L1 = ([⟨2, [bfA 0 B]⟩, ⟨2, [.agg [.nilS, .nilS]]⟩] : List Blk) := ⟨_, rfl⟩
        obtain ⟨i, be, js, xl, e, hx, hbd⟩ := HB.frame (L := L1) hv
        have hll : L1.length = 2 := by rw [hL1]; rfl
        rw [hL1] at e
        rw [e, ← hL1]
        obtain ⟨X, hX⟩ : ∃ X, L1 ++ N.map (ownB L1.length) = X := ⟨_, rfl⟩
        rw [hX] at hx ⊢
        have x0 : X[1]? = some ⟨2, [.agg [.nilS, .nilS]]⟩ := by rw [← hX, hL1]; rfl
        have x1 : X[0]? = some ⟨2, [bfA 0 B]⟩ := by rw [← hX, hL1]; rfl
        rw [hll] at hbd
        clear hX hL1 hv e
        have hbm : ∀ b ∈ i :: (js ++ pxI xl), 2 ≤ b := fun b hb => (hbd b hb).1
        have hcell := hx.x.cell
        have xl1 := (List.getElem?_eq_some_iff.1 x0).1
        have y0 := fun Z : List Blk => get_ext x0 Z
        have y2 := fun Z : List Blk => get_ext x1 Z
        have s0 : ∀ (K : Blk) (Z : List Blk), (X ++ Z).set 1 K = X.set 1 K ++ Z := fun K Z => List.set_append_left _ _ xl1
        have y1 : ∀ (K : Blk) (Z : List Blk), (X.set 1 K ++ Z)[1]? = some K := fun K Z => get_ext (List.getElem?_set_self xl1) Z
        repeat' (first | with_reducible first | refine kI (by kernel_rfl) ?_ | simp -implicitDefEqProofs (disch := omega) only [go_sem, Nat.reduceAdd, Nat.reduceSub, reduceCtorEq, Nat.reduceLT, Nat.reduceLeDiff, Nat.reduceEqDiff, ↓reduceIte, if_pos, if_neg, Tryz.ntmps91, Tryz.results91,  hcell, y0, s0, y1, y2, evCopy, hov, rszC_len])
        have hx2 := hx.cells (W' := X.set 1 ⟨2, [.agg [.sl (X.length + 1) m 0 m m, be]]⟩ ++ [⟨2, [.agg [.sl (X.length + 1) m 0 m m, be]]⟩, stB (rszC B.c m)]) (i' := X.length + 1) (C := rszC B.c m) hbm (fun b hb => ?_) get_set1 (.inr (by omega))
        · exact ⟨_, rfl, X.length + 1, be, js, xl, by rw [rszC_len], hx2, fun b hb => ⟨Nat.zero_le _, by simpa using hx2.lt b hb⟩⟩
        · have h7 : b ∈ i :: (js ++ pxI xl) := List.mem_cons_of_mem _ hb
          have h6 := hbm b h7
          rw [List.getElem?_append_left (by rw [List.length_set]; exact hx.lt b h7), List.getElem?_set_ne (by omega)]
      · have e3' : (0 : Int) < ((opF B).length : Int) := by
          have := List.length_pos_iff.2 e3
          omega
        rw [opt_f (by simp [e3])]
        repeat' (first | with_reducible first | refine kI (by kernel_rfl) ?_ | refine kN (by kernel_rfl) ?_ | simp -implicitDefEqProofs (disch := omega) only [go_sem, Nat.reduceAdd, Nat.reduceSub, reduceCtorEq, Nat.reduceLT, Nat.reduceLeDiff, Nat.reduceEqDiff, ↓reduceIte, if_pos, if_neg, Tryz.ntmps91, Tryz.results91,  hb, q1, ha, q3, ho, q2, e3'])
        exact rfl
end Go.Proofs.YtkmnepmnjpdpkaaGreatDoor
