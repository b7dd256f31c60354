/- Contracts of functions that the laws of this seat call. -/
import Derived.Test.YtkmnepmnjpdpkaaGreatDoorXXi
import Derived.Test.YtkmnepmnjpdpkaaGreatDoorXXg
import Derived.Test.YtkmnepmnjpdpkaaGreatDoorXxA
set_option linter.all false
namespace Go.Ev
open Go Go.RowKit
variable [Gl] [Lit]
variable {P : Program}
theorem ISpec.cspec {f : FuncId} {args : List AV} {K : AV → List Blk → Prop} (h : ISpec P f args [] K) {q : AV} (hown : Own q) (hq : ∀ r N, K r N → exp 1 N r = q) : CSpec P f args q := by
  intro I w vs hl hx hI hG
  let V : Vw := ⟨w.heap.size, I, fun _ => False, []⟩
  have hrel : Rel V [] w := ⟨rfl, by simp, by simp [V], by simp [V], hI, fun _ h => h.elim, Nat.le_refl _, by simp, hG⟩
  have hrf : rfOf V.m [] = fun _ => none := by funext b; simp [rfOf]
  refine (h V w vs hrel hl (fun i hi => by rw [hrf]; exact hx i hi)).mono ?_
  rintro e w' ⟨v, r', L', V', rfl, hK, h2, h3, h4, g2⟩
  have hB : V'.B = w.heap.size := h3.B
  refine ⟨v, fun x => V'.J x ∨ ∃ (b : Nat) (e : Nat × Nat × Nat), V'.m[b]? = some e ∧ e.1 = x, rfl, ⟨h3.os, h3.tape, h3.output, h3.size, fun k hk => (h3.keep k hk (by simp [V])).1⟩, fun x hx => ?_, ?_⟩
  · rcases hx with hx | ⟨b, e, he, rfl⟩
    · have := h2.Jlt x hx; omega
    · have := (h2.fresh b e he).1; have := h2.blt he; omega
  · have := exp_sound (I' := V'.I) (J' := fun x => V'.J x ∨ ∃ (b : Nat) (e : Nat × Nat × Nat), V'.m[b]? = some e ∧ e.1 = x) (rf' := fun _ => none) (L0 := L') h2 1 (by omega) (fun x hx => .inl hx) (fun x hx => .inr (.inl hx)) (fun b e he => .inr (.inr ⟨b, e, he, rfl⟩)) (fun _ _ h => h)
        (fun _ x hx => .inl hx) (fun _ b e he => .inr ⟨b, e, he, rfl⟩) _ v g2
    rw [hq _ _ hK] at this
    exact this.own hown
end Go.Ev
namespace Go.Proofs.YtkmnepmnjpdpkaaGreatDoor
open Go Go.Ev Go.RowKit Go.Ev.Enc Go.Pl

theorem exH.exp1 {M : List Blk} {be : AV} {js : List Nat} {xl : List Px} (hx : exH M be xl js) (hh : pxH M xl) : expC 1 M be = .ds 1 (exL 1 (xl.map Px.x)) := by
  rcases hx with ⟨rfl, rfl, -⟩ | ⟨j, -, rfl, hj⟩
  · rfl
  · rw [ec_sl, ee_sl, hj]
    simp only [expS, List.length_map, Nat.zero_add, Nat.le_refl, and_self, if_true, List.drop_zero]
    rw [List.take_of_length_le (by simp)]
    congr 1
    rw [exL, List.map_map, List.map_map]
    apply List.map_congr_left
    intro t ht
    obtain ⟨h1, h2⟩ := hh t ht
    simp only [Function.comp_def, expE, List.map_cons, List.map_nil, stepC, h1, h2, List.length_map, Nat.zero_add, Nat.le_refl, and_self, if_true, List.drop_zero]
    rw [List.take_of_length_le (by simp), List.take_of_length_le (by simp)]
    simp [ints, Function.comp_def, expE, stepC]
theorem HB.exp1 {lo hi : Nat} {M : List Blk} {v : AV} {B : Bf} (h : HB lo hi M v B) : Go.Ev.exp 1 M v = enc 1 B := by
  obtain ⟨i, be, js, xl, rfl, hx, -⟩ := h
  show AV.agg [expC 1 M _, expC 1 M _] = _
  rw [hx.x.exp1 hx.h, hx.e, ec_sl, ee_sl, hx.c]
  simp [expS, expE, stepC, Function.comp_def, List.take_of_length_le]
  rfl
theorem can_toV : CanCall Tryz.prog 158 := ⟨_, Tryz.func158, rfl, rfl⟩
theorem can_toE : CanCall Tryz.prog 127 := ⟨_, Tryz.func127, rfl, rfl⟩
theorem can_toES : CanCall Tryz.prog 88 := ⟨_, Tryz.func88, rfl, rfl⟩
theorem can_toB : CanCall Tryz.prog 46 := ⟨_, Tryz.func46, rfl, rfl⟩
theorem can_toA : CanCall Tryz.prog 47 := ⟨_, Tryz.func47, rfl, rfl⟩
set_option maxHeartbeats 4000000 in
set_option maxRecDepth 100000 in
theorem isp_toViewX {Sg : FuncId → Option (List AV → Option AV)} (hS : Sound Tryz.prog Sg) (n1 : Sg 87 = none) (v : Vi) (h : viM v) : ISpec Tryz.prog 158 [.agg [i64 v.b, ints 0 v.sh, ints 0 v.st]] [] (fun r L' => VK 0 L' r v) := by
  refine ISpec.intro Tryz.func158 rfl (vc3_sound Tryz.pf hS hS _ _ _ ?_)
  have hs := h.1
  have ht := h.2
  repeat' (first | with_reducible first | refine kI (by kernel_rfl) ?_ | (first | refine kB1 ?_ ?_ | refine kB2 ?_ ?_) <;> intro hp | (first | refine kD1 ?_ ?_ | refine kD2 ?_ ?_ | refine kS1 ?_ ?_ | refine kS2 ?_ ?_) <;> intro hp <;> try simp only [hp] | simp -implicitDefEqProofs (disch := omega) only [go_sem, Nat.reduceAdd, Nat.reduceSub, reduceCtorEq, Nat.reduceLT, Nat.reduceLeDiff, Nat.reduceEqDiff, Nat.reduceMul, Int.reduceToNat, ↓reduceIte, List.take_of_length_le, if_pos, if_neg, List.getElem?_set_self, List.set_set, getD_exs, cnE, cnV, Tryz.ntmps158, Tryz.results158,  n1, opQ_none])
  refine InlK_intro rfl rfl can_toI ((o_toIntS hS v.sh (by omega)).call (by simp only [go_sem, ints]) ?_)
  repeat' (first | with_reducible first | refine kI (by kernel_rfl) ?_ | (first | refine kB1 ?_ ?_ | refine kB2 ?_ ?_) <;> intro hp | (first | refine kD1 ?_ ?_ | refine kD2 ?_ ?_ | refine kS1 ?_ ?_ | refine kS2 ?_ ?_) <;> intro hp <;> try simp only [hp] | simp -implicitDefEqProofs (disch := omega) only [go_sem, Nat.reduceAdd, Nat.reduceSub, reduceCtorEq, Nat.reduceLT, Nat.reduceLeDiff, Nat.reduceEqDiff, Nat.reduceMul, Int.reduceToNat, ↓reduceIte, List.take_of_length_le, if_pos, if_neg, List.getElem?_set_self, List.set_set, getD_exs, cnE, cnV, Tryz.ntmps158, Tryz.results158,  n1, opQ_none])
  refine InlK_intro rfl rfl can_toI ((o_toIntS hS v.st (by omega)).call (by simp only [go_sem, ints]) ?_)
  repeat' (first | with_reducible first | refine kI (by kernel_rfl) ?_ | (first | refine kB1 ?_ ?_ | refine kB2 ?_ ?_) <;> intro hp | (first | refine kD1 ?_ ?_ | refine kD2 ?_ ?_ | refine kS1 ?_ ?_ | refine kS2 ?_ ?_) <;> intro hp <;> try simp only [hp] | simp -implicitDefEqProofs (disch := omega) only [go_sem, Nat.reduceAdd, Nat.reduceSub, reduceCtorEq, Nat.reduceLT, Nat.reduceLeDiff, Nat.reduceEqDiff, Nat.reduceMul, Int.reduceToNat, ↓reduceIte, List.take_of_length_le, if_pos, if_neg, List.getElem?_set_self, List.set_set, getD_exs, cnE, cnV, Tryz.ntmps158, Tryz.results158])
  exact ⟨3, 4, rfl, rfl, rfl, by decide, Nat.zero_le _, Nat.zero_le _⟩
def ToVX : Prop := ∀ v : Vi, viM v → ISpec Tryz.prog 158 [.agg [i64 v.b, ints 0 v.sh, ints 0 v.st]] [] fun r L' => VK 0 L' r v
def EK (lo : Nat) (M : List Blk) (r : AV) (x : Ex) : Prop := ∃ a c, r = pxE ⟨x, a, c⟩ ∧ M[a]? = some (stB x.v.sh) ∧ M[c]? = some (stB x.v.st) ∧ a ≠ c ∧ lo ≤ a ∧ lo ≤ c
theorem EK.frame {N L : List Blk} {r : AV} {x : Ex} (h : EK 0 N r x) : EK L.length (L ++ N.map (ownB L.length)) (ownV L.length r) x := by
  obtain ⟨b, c, rfl, h1, h2, h3, -, -⟩ := h
  exact ⟨L.length + b, L.length + c, rfl, get_frs h1, get_frs h2, by omega, by omega, by omega⟩
set_option maxHeartbeats 4000000 in
set_option maxRecDepth 100000 in
theorem isp_toExportX {Sg : FuncId → Option (List AV → Option AV)} (hS : Sound Tryz.prog Sg) (n1 : Sg 158 = none) (x : Ex) (h : viM x.v) (htv : ToVX) : ISpec Tryz.prog 127 [exA 0 x] [] (fun r L' => EK 0 L' r x) := by
  refine ISpec.intro Tryz.func127 rfl (vc3_sound Tryz.pf hS hS _ _ _ ?_)
  repeat' (first | with_reducible first | refine kI (by kernel_rfl) ?_ | (first | refine kB1 ?_ ?_ | refine kB2 ?_ ?_) <;> intro hp | (first | refine kD1 ?_ ?_ | refine kD2 ?_ ?_ | refine kS1 ?_ ?_ | refine kS2 ?_ ?_) <;> intro hp <;> try simp only [hp] | simp -implicitDefEqProofs (disch := omega) only [go_sem, Nat.reduceAdd, Nat.reduceSub, reduceCtorEq, Nat.reduceLT, Nat.reduceLeDiff, Nat.reduceEqDiff, Nat.reduceMul, Int.reduceToNat, ↓reduceIte, List.take_of_length_le, if_pos, if_neg, List.getElem?_set_self, List.set_set, getD_exs, cnE, cnV, Tryz.ntmps127, Tryz.results127,  n1, opQ_none])
  refine InlK_intro rfl rfl can_toV (callF (htv x.v h) (by simp only [go_sem, ints]) ?_)
  intro r N hr
  obtain ⟨b, c, e, h1, h2, h3, h4, h5⟩ := VK.frame (L := _) hr
  rw [e]
  repeat' (first | with_reducible first | refine kI (by kernel_rfl) ?_ | (first | refine kB1 ?_ ?_ | refine kB2 ?_ ?_) <;> intro hp | (first | refine kD1 ?_ ?_ | refine kD2 ?_ ?_ | refine kS1 ?_ ?_ | refine kS2 ?_ ?_) <;> intro hp <;> try simp only [hp] | simp -implicitDefEqProofs (disch := omega) only [go_sem, Nat.reduceAdd, Nat.reduceSub, reduceCtorEq, Nat.reduceLT, Nat.reduceLeDiff, Nat.reduceEqDiff, Nat.reduceMul, Int.reduceToNat, ↓reduceIte, List.take_of_length_le, if_pos, if_neg, List.getElem?_set_self, List.set_set, getD_exs, cnE, cnV, Tryz.ntmps127, Tryz.results127])
  exact ⟨b, c, rfl, get_pre (P' := [_, _, _]) h1 h4 rfl, get_pre (P' := [_, _, _]) h2 h5 rfl, h3, Nat.zero_le _, Nat.zero_le _⟩
def ToEX : Prop := ∀ x : Ex, viM x.v → ISpec Tryz.prog 127 [exA 0 x] [] fun r L' => EK 0 L' r x
def zE : AV := .agg [.int .i64 0, .int .i64 0, .nilS, .nilS, .bool false]
def fiX (n : Nat) (xl : List Px) : List AV := xl.map pxE ++ List.replicate (n - xl.length) zE
theorem fiX_len {n : Nat} {xl : List Px} (h : xl.length ≤ n) : (fiX n xl).length = n := by simp [fiX]; omega
theorem fiX_at {n : Nat} {xl : List Px} (h : xl.length < n) : (fiX n xl).getD xl.length .any = zE := by
  unfold fiX
  rw [List.getD_eq_getElem?_getD, List.getElem?_append_right (by simp), List.length_map, Nat.sub_self, List.getElem?_replicate, if_pos (by omega)]; rfl
theorem fiX_set {n : Nat} {xl : List Px} {t : Px} (h : xl.length < n) : (fiX n xl).set xl.length (pxE t) = fiX n (xl ++ [t]) := by
  unfold fiX
  rw [List.set_append_right _ _ (by simp), List.length_map, Nat.sub_self, show n - xl.length = (n - (xl ++ [t]).length) + 1 by simp; omega, List.replicate_succ, List.set_cons_zero, List.map_append, List.append_assoc]; rfl
def ESK (lo : Nat) (M : List Blk) (r : AV) (l : List Ex) : Prop := ∃ j xl, r = .sl j l.length 0 l.length l.length ∧ M[j]? = some ⟨5, xl.map pxE⟩ ∧ xl.map Px.x = l ∧ pxH M xl ∧ (j :: pxI xl).Nodup ∧ ∀ b ∈ j :: pxI xl, lo ≤ b
theorem ESK.frame {N L : List Blk} {r : AV} {l : List Ex} (h : ESK 0 N r l) : ESK L.length (L ++ N.map (ownB L.length)) (ownV L.length r) l := by
  obtain ⟨j, xl, rfl, h1, h2, h3, h4, -⟩ := h
  let sh : Px → Px := fun t => ⟨t.x, L.length + t.a, L.length + t.c⟩
  have hI : (L.length + j) :: pxI (xl.map sh) = (j :: pxI xl).map (L.length + ·) := by
    simp [pxI, sh, List.map_flatMap, List.flatMap_map]
  refine ⟨L.length + j, xl.map sh, rfl, ?_, by rw [List.map_map]; exact h2, fun t ht => ?_, by rw [hI]; exact nod_add _ h4, fun b hb => ?_⟩
  · rw [get_fr h1]; unfold ownB; rw [List.map_map, List.map_map]; rfl
  · obtain ⟨u, hu, rfl⟩ := List.mem_map.1 ht
    exact ⟨get_frs (h3 u hu).1, get_frs (h3 u hu).2⟩
  · rw [hI] at hb
    obtain ⟨q, -, rfl⟩ := List.mem_map.1 hb
    omega
set_option maxHeartbeats 4000000 in
set_option maxRecDepth 100000 in
theorem isp_toExportSX {Sg : FuncId → Option (List AV → Option AV)} (hS : Sound Tryz.prog Sg) (n1 : Sg 127 = none) (l : List Ex) (hl : l.length ≤ 1048576) (hv : ∀ i, i < l.length → viM (l.getD i ex0).v) (hte : ToEX) : ISpec Tryz.prog 88 [.ds 0 (exL 0 l)] [] (fun r L' => ESK 0 L' r l) := by
  refine ISpec.intro Tryz.func88 rfl (vc3_sound Tryz.pf hS hS _ _ _ ?_)
  repeat' (first | with_reducible first | refine kI (by kernel_rfl) ?_ | (first | refine kB1 ?_ ?_ | refine kB2 ?_ ?_) <;> intro hp | (first | refine kD1 ?_ ?_ | refine kD2 ?_ ?_ | refine kS1 ?_ ?_ | refine kS2 ?_ ?_) <;> intro hp <;> try simp only [hp] | simp -implicitDefEqProofs (disch := omega) only [go_sem, Nat.reduceAdd, Nat.reduceSub, reduceCtorEq, Nat.reduceLT, Nat.reduceLeDiff, Nat.reduceEqDiff, Nat.reduceMul, Int.reduceToNat, ↓reduceIte, List.take_of_length_le, if_pos, if_neg, List.getElem?_set_self, List.set_set, getD_exs, cnE, cnV, Tryz.ntmps88, Tryz.results88])
  refine LoopQ.mix (fun t0 L0 nn ss => ∃ (i : Nat) (W : List Blk) (xl : List Px) (_ : Unit), (∃ x : Nat → AV, ss = ⟨mixL 0 (.k :: .k :: .k :: .k :: .v (i64 (i : Nat)) :: .k :: .k :: .k :: .s :: .s :: .s :: .s :: .s :: .s :: .s :: .s :: .s :: .s :: .s :: .s :: .s :: .s :: .k :: []) t0 x, W⟩) ∧ (i ≤ l.length) ∧ (xl.length = i) ∧ (W[0]? = some ⟨5, fiX l.length xl⟩) ∧ (xl.map Px.x = l.take i) ∧ (pxH W xl) ∧ ((0 :: pxI xl).Nodup) ∧ nn = l.length - i) ?_ ?_
  · exact ⟨_, 0, _, [], (), mixJ rfl rfl, Nat.zero_le _, rfl, by simp [fiX, zE], rfl, (fun t ht => by cases ht), by simp [pxI], rfl⟩
  · rintro I0 hI0 nn ss ⟨i, W, xl, _, ⟨y, rfl⟩, g1, g2, g3, g4, g5, g6, rfl⟩
    have hln := fiX_len (n := l.length) (xl := xl) (by omega)
    by_cases hi : i < l.length
    · have hii : (i : Int) < (l.length : Int) := by omega
      have hge := getD_exs (t := 0) hi
      have hcall := hte (l.getD i ex0) (hv i hi)
      have htk := take_sn hi
      generalize l.getD i ex0 = x at *
      subst g2
      have hat := fiX_at hi
      repeat' (first | with_reducible first | refine kI (by kernel_rfl) ?_ | (first | refine kB1 ?_ ?_ | refine kB2 ?_ ?_) <;> intro hp | (first | refine kD1 ?_ ?_ | refine kD2 ?_ ?_ | refine kS1 ?_ ?_ | refine kS2 ?_ ?_) <;> intro hp <;> try simp only [hp] | simp -implicitDefEqProofs (disch := omega) only [go_sem, Nat.reduceAdd, Nat.reduceSub, reduceCtorEq, Nat.reduceLT, Nat.reduceLeDiff, Nat.reduceEqDiff, Nat.reduceMul, Int.reduceToNat, ↓reduceIte, List.take_of_length_le, if_pos, if_neg, List.getElem?_set_self, List.set_set, getD_exs, cnE, cnV, Tryz.ntmps88, Tryz.results88,  hii, hge, n1, opQ_none])
      refine InlK_intro rfl rfl can_toE (callF hcall (by simp only [go_sem, ints]) ?_)
      intro r N hr
      obtain ⟨a, c, e, h1, h2, h3, h4, h5⟩ := EK.frame (L := W) hr
      rw [e]
      generalize N.map (ownB W.length) = Y at *
      have hw0 := (List.getElem?_eq_some_iff.1 g3).1
      have y0 : ∀ Z : List Blk, (W ++ Z)[0]? = _ := fun Z => get_ext g3 Z
      have hst := fiX_set (t := ⟨x, a, c⟩) hi
      have s0 : ∀ (K : Blk) (Z : List Blk), (W ++ Z).set 0 K = W.set 0 K ++ Z := fun K Z => List.set_append_left _ _ hw0
      unfold zE at hat
      repeat' (first | with_reducible first | refine kI (by kernel_rfl) ?_ | (first | refine kB1 ?_ ?_ | refine kB2 ?_ ?_) <;> intro hp | (first | refine kD1 ?_ ?_ | refine kD2 ?_ ?_ | refine kS1 ?_ ?_ | refine kS2 ?_ ?_) <;> intro hp <;> try simp only [hp] | simp -implicitDefEqProofs (disch := omega) only [go_sem, Nat.reduceAdd, Nat.reduceSub, reduceCtorEq, Nat.reduceLT, Nat.reduceLeDiff, Nat.reduceEqDiff, Nat.reduceMul, Int.reduceToNat, ↓reduceIte, List.take_of_length_le, if_pos, if_neg, List.getElem?_set_self, List.set_set, getD_exs, cnE, cnV, Tryz.ntmps88, Tryz.results88,  y0, hln, hat, hst, s0])
      have hsa : ∀ (K : Blk) (b : Nat), W.length ≤ b → (W.set 0 K ++ Y)[b]? = (W ++ Y)[b]? := fun K b hb => by
        rw [List.getElem?_append_right (by rw [List.length_set]; exact hb), List.getElem?_append_right hb, List.length_set]
      obtain ⟨n0, n1⟩ := List.nodup_cons.1 g6
      have hlt := pxH_lt g5
      refine ⟨l.length - (xl.length + 1), by omega, hI0 _ _ ⟨xl.length + 1, _, xl ++ [⟨x, a, c⟩], (), mixJ rfl rfl, hi, by simp, get_ext (List.getElem?_set_self hw0) _, by rw [List.map_append, g4, htk]; rfl, pxH_snoc (pxH_same g5 fun b hb => ?_) ((hsa _ a h4).trans h1) ((hsa _ c h5).trans h2), ?_, rfl⟩⟩
      · rw [List.getElem?_append_left (by rw [List.length_set]; exact hlt b hb), List.getElem?_set_ne (fun e : 0 = b => n0 (by rw [e]; exact hb))]
      · rw [pxI_app, pxI_one]
        refine List.nodup_cons.2 ⟨?_, List.nodup_append.2 ⟨n1, by simp [h3], fun b hb q hq => ?_⟩⟩
        · simp only [List.mem_append, List.mem_cons, List.not_mem_nil, or_false]
          rintro (h | h | h)
          · exact n0 h
          · omega
          · omega
        · have := hlt b hb
          simp at hq
          omega
    · obtain rfl : i = l.length := by omega
      repeat' (first | with_reducible first | refine kI (by kernel_rfl) ?_ | (first | refine kB1 ?_ ?_ | refine kB2 ?_ ?_) <;> intro hp | (first | refine kD1 ?_ ?_ | refine kD2 ?_ ?_ | refine kS1 ?_ ?_ | refine kS2 ?_ ?_) <;> intro hp <;> try simp only [hp] | simp -implicitDefEqProofs (disch := omega) only [go_sem, Nat.reduceAdd, Nat.reduceSub, reduceCtorEq, Nat.reduceLT, Nat.reduceLeDiff, Nat.reduceEqDiff, Nat.reduceMul, Int.reduceToNat, ↓reduceIte, List.take_of_length_le, if_pos, if_neg, List.getElem?_set_self, List.set_set, getD_exs, cnE, cnV, Tryz.ntmps88, Tryz.results88])
      exact ⟨0, xl, rfl, by rw [g3]; simp [fiX, g2], by rw [g4, List.take_length], g5, g6, fun _ _ => Nat.zero_le _⟩
theorem HB_of {M : List Blk} {v : AV} {B : Bf} {i hi : Nat} {be : AV} {js : List Nat} {xl : List Px} (hv : v = .agg [.sl i B.c.length 0 B.c.length B.c.length, be]) (hx : HBx M i be js xl B) (hh : M.length ≤ hi) : HB 0 hi M v B := ⟨i, be, js, xl, hv, hx, fun b hb => ⟨Nat.zero_le _, Nat.lt_of_lt_of_le (hx.lt b hb) hh⟩⟩
def ToESX : Prop := ∀ l : List Ex, l.length ≤ 1048576 → (∀ i, i < l.length → viM (l.getD i ex0).v) → ISpec Tryz.prog 88 [.ds 0 (exL 0 l)] [] fun r L' => ESK 0 L' r l
set_option maxHeartbeats 4000000 in
set_option maxRecDepth 100000 in
theorem isp_toBufferX {Sg : FuncId → Option (List AV → Option AV)} (hS : Sound Tryz.prog Sg) (n1 : Sg 87 = none) (n2 : Sg 88 = none) (B : Bf) (h : bfM B) (hts : ToESX) : ISpec Tryz.prog 46 [bfA 0 B] [] (fun r L' => HB 0 L'.length L' r B) := by
  refine ISpec.intro Tryz.func46 rfl (vc3_sound Tryz.pf hS hS _ _ _ ?_)
  obtain ⟨h1, h2, h3⟩ := h
  repeat' (first | with_reducible first | refine kI (by kernel_rfl) ?_ | (first | refine kB1 ?_ ?_ | refine kB2 ?_ ?_) <;> intro hp | (first | refine kD1 ?_ ?_ | refine kD2 ?_ ?_ | refine kS1 ?_ ?_ | refine kS2 ?_ ?_) <;> intro hp <;> try simp only [hp] | simp -implicitDefEqProofs (disch := omega) only [go_sem, Nat.reduceAdd, Nat.reduceSub, reduceCtorEq, Nat.reduceLT, Nat.reduceLeDiff, Nat.reduceEqDiff, Nat.reduceMul, Int.reduceToNat, ↓reduceIte, List.take_of_length_le, if_pos, if_neg, List.getElem?_set_self, List.set_set, getD_exs, cnE, cnV, Tryz.ntmps46, Tryz.results46,  n1, opQ_none])
  refine InlK_intro rfl rfl can_toI ((o_toIntS hS B.c h1).call (by simp only [go_sem, ints]) ?_)
  repeat' (first | with_reducible first | refine kI (by kernel_rfl) ?_ | (first | refine kB1 ?_ ?_ | refine kB2 ?_ ?_) <;> intro hp | (first | refine kD1 ?_ ?_ | refine kD2 ?_ ?_ | refine kS1 ?_ ?_ | refine kS2 ?_ ?_) <;> intro hp <;> try simp only [hp] | simp -implicitDefEqProofs (disch := omega) only [go_sem, Nat.reduceAdd, Nat.reduceSub, reduceCtorEq, Nat.reduceLT, Nat.reduceLeDiff, Nat.reduceEqDiff, Nat.reduceMul, Int.reduceToNat, ↓reduceIte, List.take_of_length_le, if_pos, if_neg, List.getElem?_set_self, List.set_set, getD_exs, cnE, cnV, Tryz.ntmps46, Tryz.results46,  n2, opQ_none])
  refine InlK_intro rfl rfl can_toES (callF (hts B.e h2 h3) (by simp only [go_sem, ints]) ?_)
  intro r N hr
  obtain ⟨j, xl, e, u1, u2, u3, u4, u5⟩ := ESK.frame (L := _) hr
  rw [e]
  have hxl : xl.length = B.e.length := by rw [← u2, List.length_map]
  have hid : ∀ b ∈ j :: pxI xl, 4 ≤ b := u5
  repeat' (first | with_reducible first | refine kI (by kernel_rfl) ?_ | (first | refine kB1 ?_ ?_ | refine kB2 ?_ ?_) <;> intro hp | (first | refine kD1 ?_ ?_ | refine kD2 ?_ ?_ | refine kS1 ?_ ?_ | refine kS2 ?_ ?_) <;> intro hp <;> try simp only [hp] | simp -implicitDefEqProofs (disch := omega) only [go_sem, Nat.reduceAdd, Nat.reduceSub, reduceCtorEq, Nat.reduceLT, Nat.reduceLeDiff, Nat.reduceEqDiff, Nat.reduceMul, Int.reduceToNat, ↓reduceIte, List.take_of_length_le, if_pos, if_neg, List.getElem?_set_self, List.set_set, getD_exs, cnE, cnV, Tryz.ntmps46, Tryz.results46])
  refine HB_of (i := 3) (js := [j]) (xl := xl) rfl ⟨rfl, u2, .inr ⟨j, rfl, by rw [hxl], get_pre (P' := [_, _, _, _]) u1 (u5 j (by simp)) rfl⟩, fun t ht => ⟨get_pre (P' := [_, _, _, _]) (u3 t ht).1 (u5 _ (List.mem_cons_of_mem _ (mem_pxI.2 ⟨t, ht, .inl rfl⟩))) rfl, get_pre (P' := [_, _, _, _]) (u3 t ht).2 (u5 _ (List.mem_cons_of_mem _ (mem_pxI.2 ⟨t, ht, .inr rfl⟩))) rfl⟩, List.nodup_cons.2 ⟨fun h => by have := hid 3 h; omega, u4⟩⟩ (by simp)
set_option maxHeartbeats 4000000 in
set_option maxRecDepth 100000 in
theorem isp_toActX {Sg : FuncId → Option (List AV → Option AV)} (hS : Sound Tryz.prog Sg) (n1 : Sg 87 = none) (a : Ac) (h : a.n.length ≤ 1048576) : ISpec Tryz.prog 47 [acA 0 a] [] (fun r L' => ∃ c, r = .agg [i64 a.k, .sl c a.n.length 0 a.n.length a.n.length] ∧ L'[c]? = some (stB a.n)) := by
  refine ISpec.intro Tryz.func47 rfl (vc3_sound Tryz.pf hS hS _ _ _ ?_)
  repeat' (first | with_reducible first | refine kI (by kernel_rfl) ?_ | (first | refine kB1 ?_ ?_ | refine kB2 ?_ ?_) <;> intro hp | (first | refine kD1 ?_ ?_ | refine kD2 ?_ ?_ | refine kS1 ?_ ?_ | refine kS2 ?_ ?_) <;> intro hp <;> try simp only [hp] | simp -implicitDefEqProofs (disch := omega) only [go_sem, Nat.reduceAdd, Nat.reduceSub, reduceCtorEq, Nat.reduceLT, Nat.reduceLeDiff, Nat.reduceEqDiff, Nat.reduceMul, Int.reduceToNat, ↓reduceIte, List.take_of_length_le, if_pos, if_neg, List.getElem?_set_self, List.set_set, getD_exs, cnE, cnV, Tryz.ntmps47, Tryz.results47,  n1, opQ_none])
  refine InlK_intro rfl rfl can_toI ((o_toIntS hS a.n h).call (by simp only [go_sem, ints]) ?_)
  repeat' (first | with_reducible first | refine kI (by kernel_rfl) ?_ | (first | refine kB1 ?_ ?_ | refine kB2 ?_ ?_) <;> intro hp | (first | refine kD1 ?_ ?_ | refine kD2 ?_ ?_ | refine kS1 ?_ ?_ | refine kS2 ?_ ?_) <;> intro hp <;> try simp only [hp] | simp -implicitDefEqProofs (disch := omega) only [go_sem, Nat.reduceAdd, Nat.reduceSub, reduceCtorEq, Nat.reduceLT, Nat.reduceLeDiff, Nat.reduceEqDiff, Nat.reduceMul, Int.reduceToNat, ↓reduceIte, List.take_of_length_le, if_pos, if_neg, List.getElem?_set_self, List.set_set, getD_exs, cnE, cnV, Tryz.ntmps47, Tryz.results47])
  exact ⟨3, rfl, rfl⟩
def toT (v : Vi) : Tsr := ⟨v.sh, v.st⟩
theorem szT_m1 {x : Tsr} {left : Int} (h : szT x left < 0) : szT x left = -1 := by
  unfold szT at h ⊢
  split at h
  · rename_i h1; rw [if_pos h1]
  · rename_i h1; rw [if_neg h1]; exact szI_m1 h
def gSzV (v : Vi) (left : Int) : Option Int := gd ((0 ≤ left ∧ left ≤ 1048576) ∧ tsrBig (toT v)) (szT (toT v) left)
theorem gSzV_eq {v : Vi} {left : Int} (h : (0 ≤ left ∧ left ≤ 1048576) ∧ tsrBig (toT v)) : gSzV v left = some (szT (toT v) left) := gd_eq h
set_option maxHeartbeats 4000000 in
set_option maxRecDepth 100000 in
theorem spec_szView {Sg : FuncId → Option (List AV → Option AV)} (hS : Sound Tryz.prog Sg) (hc : Sg 85 = some (F2 gSzInts)) : ∀ a r, F2 gSzV a = some r → CSpec Tryz.prog 157 a r := by
  refine F2_spec ?_
  intro v left r hr
  obtain ⟨⟨⟨h2, h3⟩, h4, h5⟩, rfl⟩ := gd_some hr
  have q1 := gSzInts_eq (l := v.sh) (left := left) ⟨h4, h2, h3⟩
  have hT : szT (toT v) left = if szI v.sh.length left < 0 then -1 else szI v.st.length (szI v.sh.length left) := rfl
  rw [hT]
  by_cases c1 : szI v.sh.length left < 0
  · rw [if_pos c1]
    rw [szI_m1 c1] at q1
    refine CSpec.intro Tryz.func157 rfl (own _) (vc3_sound Tryz.pf hS hS _ _ _ ?_)
    repeat' (first | with_reducible first | refine kI (by kernel_rfl) ?_ | refine kN (by kernel_rfl) ?_ | (first | refine kB1 ?_ ?_ | refine kB2 ?_ ?_) <;> intro hp | (first | refine kD1 ?_ ?_ | refine kD2 ?_ ?_ | refine kS1 ?_ ?_ | refine kS2 ?_ ?_) <;> intro hp <;> try simp only [hp] | simp -implicitDefEqProofs (disch := omega) only [go_sem, Nat.reduceAdd, Nat.reduceSub, reduceCtorEq, Nat.reduceLT, Nat.reduceLeDiff, Nat.reduceEqDiff, Nat.reduceMul, Int.reduceToNat, ↓reduceIte, List.take_of_length_le, if_pos, if_neg, List.getElem?_set_self, List.set_set, getD_exs, cnE, cnV, Tryz.ntmps157, Tryz.results157,  hc, q1])
    try rfl
  · rw [if_neg c1]
    have e1 := szI_le c1
    have q2 := gSzInts_eq (l := v.st) (left := szI v.sh.length left) ⟨h5, by omega, by omega⟩
    generalize szI v.sh.length left = m at *
    by_cases c2 : szI v.st.length m < 0
    · rw [szI_m1 c2] at q2 ⊢
      refine CSpec.intro Tryz.func157 rfl (own _) (vc3_sound Tryz.pf hS hS _ _ _ ?_)
      repeat' (first | with_reducible first | refine kI (by kernel_rfl) ?_ | refine kN (by kernel_rfl) ?_ | (first | refine kB1 ?_ ?_ | refine kB2 ?_ ?_) <;> intro hp | (first | refine kD1 ?_ ?_ | refine kD2 ?_ ?_ | refine kS1 ?_ ?_ | refine kS2 ?_ ?_) <;> intro hp <;> try simp only [hp] | simp -implicitDefEqProofs (disch := omega) only [go_sem, Nat.reduceAdd, Nat.reduceSub, reduceCtorEq, Nat.reduceLT, Nat.reduceLeDiff, Nat.reduceEqDiff, Nat.reduceMul, Int.reduceToNat, ↓reduceIte, List.take_of_length_le, if_pos, if_neg, List.getElem?_set_self, List.set_set, getD_exs, cnE, cnV, Tryz.ntmps157, Tryz.results157,  hc, q1, c1, q2])
      try rfl
    · generalize szI v.st.length m = n at *
      refine CSpec.intro Tryz.func157 rfl (own _) (vc3_sound Tryz.pf hS hS _ _ _ ?_)
      repeat' (first | with_reducible first | refine kI (by kernel_rfl) ?_ | refine kN (by kernel_rfl) ?_ | (first | refine kB1 ?_ ?_ | refine kB2 ?_ ?_) <;> intro hp | (first | refine kD1 ?_ ?_ | refine kD2 ?_ ?_ | refine kS1 ?_ ?_ | refine kS2 ?_ ?_) <;> intro hp <;> try simp only [hp] | simp -implicitDefEqProofs (disch := omega) only [go_sem, Nat.reduceAdd, Nat.reduceSub, reduceCtorEq, Nat.reduceLT, Nat.reduceLeDiff, Nat.reduceEqDiff, Nat.reduceMul, Int.reduceToNat, ↓reduceIte, List.take_of_length_le, if_pos, if_neg, List.getElem?_set_self, List.set_set, getD_exs, cnE, cnV, Tryz.ntmps157, Tryz.results157,  hc, q1, c1, q2, c2])
      try rfl
def gSzE (x : Ex) (left : Int) : Option Int := gd ((0 ≤ left ∧ left ≤ 1048576) ∧ tsrBig (toT x.v)) (szT (toT x.v) left)
theorem gSzE_eq {x : Ex} {left : Int} (h : (0 ≤ left ∧ left ≤ 1048576) ∧ tsrBig (toT x.v)) : gSzE x left = some (szT (toT x.v) left) := gd_eq h
set_option maxHeartbeats 4000000 in
set_option maxRecDepth 100000 in
theorem spec_szExport {Sg : FuncId → Option (List AV → Option AV)} (hS : Sound Tryz.prog Sg) (hc : Sg 157 = some (F2 gSzV)) : ∀ a r, F2 gSzE a = some r → CSpec Tryz.prog 126 a r := by
  refine F2_spec ?_
  intro x left r hr
  obtain ⟨h, rfl⟩ := gd_some hr
  have q1 := gSzV_eq h
  by_cases c1 : szT (toT x.v) left < 0
  · rw [szT_m1 c1] at q1 ⊢
    refine CSpec.intro Tryz.func126 rfl (own _) (vc3_sound Tryz.pf hS hS _ _ _ ?_)
    repeat' (first | with_reducible first | refine kI (by kernel_rfl) ?_ | refine kN (by kernel_rfl) ?_ | (first | refine kB1 ?_ ?_ | refine kB2 ?_ ?_) <;> intro hp | (first | refine kD1 ?_ ?_ | refine kD2 ?_ ?_ | refine kS1 ?_ ?_ | refine kS2 ?_ ?_) <;> intro hp <;> try simp only [hp] | simp -implicitDefEqProofs (disch := omega) only [go_sem, Nat.reduceAdd, Nat.reduceSub, reduceCtorEq, Nat.reduceLT, Nat.reduceLeDiff, Nat.reduceEqDiff, Nat.reduceMul, Int.reduceToNat, ↓reduceIte, List.take_of_length_le, if_pos, if_neg, List.getElem?_set_self, List.set_set, getD_exs, cnE, cnV, Tryz.ntmps126, Tryz.results126,  hc, q1])
    try rfl
  · generalize szT (toT x.v) left = m at *
    refine CSpec.intro Tryz.func126 rfl (own _) (vc3_sound Tryz.pf hS hS _ _ _ ?_)
    repeat' (first | with_reducible first | refine kI (by kernel_rfl) ?_ | refine kN (by kernel_rfl) ?_ | (first | refine kB1 ?_ ?_ | refine kB2 ?_ ?_) <;> intro hp | (first | refine kD1 ?_ ?_ | refine kD2 ?_ ?_ | refine kS1 ?_ ?_ | refine kS2 ?_ ?_) <;> intro hp <;> try simp only [hp] | simp -implicitDefEqProofs (disch := omega) only [go_sem, Nat.reduceAdd, Nat.reduceSub, reduceCtorEq, Nat.reduceLT, Nat.reduceLeDiff, Nat.reduceEqDiff, Nat.reduceMul, Int.reduceToNat, ↓reduceIte, List.take_of_length_le, if_pos, if_neg, List.getElem?_set_self, List.set_set, getD_exs, cnE, cnV, Tryz.ntmps126, Tryz.results126,  hc, q1, c1])
    try rfl
def toTs (l : List Ex) : List Tsr := l.map fun x => toT x.v
theorem toTs_len (l : List Ex) : (toTs l).length = l.length := List.length_map _
theorem toTs_at {l : List Ex} {k : Nat} (h : k < l.length) : (toTs l).getD k ⟨[], []⟩ = toT (l.getD k ex0).v := by simp [toTs, h]
def gSzEs (l : List Ex) (left : Int) : Option Int := gd ((l.length < 9223372036854775808 ∧ 0 ≤ left ∧ left ≤ 1048576) ∧ tsrsBig (toTs l)) (szTS (toTs l) left)
theorem gSzEs_eq {l : List Ex} {left : Int} (h : (l.length < 9223372036854775808 ∧ 0 ≤ left ∧ left ≤ 1048576) ∧ tsrsBig (toTs l)) : gSzEs l left = some (szTS (toTs l) left) := gd_eq h
set_option maxHeartbeats 4000000 in
set_option maxRecDepth 100000 in
theorem spec_szExportS {Sg : FuncId → Option (List AV → Option AV)} (hS : Sound Tryz.prog Sg) (hc : Sg 126 = some (F2 gSzE)) : ∀ a r, F2 gSzEs a = some r → CSpec Tryz.prog 86 a r := by
  refine F2_spec ?_
  intro l left r hr
  obtain ⟨⟨⟨h1, h2, h3⟩, h4⟩, rfl⟩ := gd_some hr
  have hTS : szTS (toTs l) left = if szI l.length left < 0 then -1 else szTs (toTs l) (szI l.length left) := by unfold szTS; rw [toTs_len]
  rw [hTS]
  by_cases c0 : left < l.length
  · rw [if_pos (by rw [szI_neg c0]; omega)]
    have c0' : IntKind.i64.wrap (left - (l.length : Int)) = left - l.length := wrap_in (by omega)
    have c1 : left - (l.length : Int) < 0 := by omega
    refine CSpec.intro Tryz.func86 rfl (own _) (vc3_sound Tryz.pf hS hS _ _ _ ?_)
    repeat' (first | with_reducible first | refine kI (by kernel_rfl) ?_ | refine kN (by kernel_rfl) ?_ | (first | refine kB1 ?_ ?_ | refine kB2 ?_ ?_) <;> intro hp | (first | refine kD1 ?_ ?_ | refine kD2 ?_ ?_ | refine kS1 ?_ ?_ | refine kS2 ?_ ?_) <;> intro hp <;> try simp only [hp] | simp -implicitDefEqProofs (disch := omega) only [go_sem, Nat.reduceAdd, Nat.reduceSub, reduceCtorEq, Nat.reduceLT, Nat.reduceLeDiff, Nat.reduceEqDiff, Nat.reduceMul, Int.reduceToNat, ↓reduceIte, List.take_of_length_le, if_pos, if_neg, List.getElem?_set_self, List.set_set, getD_exs, cnE, cnV, Tryz.ntmps86, Tryz.results86,  c0', c1])
    try rfl
  · have e : szI l.length left = left - l.length := szI_pos c0
    rw [if_neg (by omega), e]
    have c0' : IntKind.i64.wrap (left - (l.length : Int)) = left - l.length := wrap_in (by omega)
    have c1 : ¬ left - (l.length : Int) < 0 := by omega
    refine CSpec.intro Tryz.func86 rfl (own _) (vc3_sound Tryz.pf hS hS _ _ _ ?_)
    repeat' (first | with_reducible first | refine kI (by kernel_rfl) ?_ | refine kN (by kernel_rfl) ?_ | (first | refine kB1 ?_ ?_ | refine kB2 ?_ ?_) <;> intro hp | (first | refine kD1 ?_ ?_ | refine kD2 ?_ ?_ | refine kS1 ?_ ?_ | refine kS2 ?_ ?_) <;> intro hp <;> try simp only [hp] | simp -implicitDefEqProofs (disch := omega) only [go_sem, Nat.reduceAdd, Nat.reduceSub, reduceCtorEq, Nat.reduceLT, Nat.reduceLeDiff, Nat.reduceEqDiff, Nat.reduceMul, Int.reduceToNat, ↓reduceIte, List.take_of_length_le, if_pos, if_neg, List.getElem?_set_self, List.set_set, getD_exs, cnE, cnV, Tryz.ntmps86, Tryz.results86,  c0', c1])
    refine LoopQ.mix (fun t0 L0 nn ss => ∃ (k : Nat) (n : Int) (_ : Unit), (∃ x : Nat → AV, ss = ⟨mixL 0 (.k :: .v (i64 n) :: .k :: .k :: .s :: .v (i64 (k : Nat)) :: .k :: .k :: .k :: .k :: .k :: .k :: .s :: .s :: .s :: .s :: .s :: .s :: .s :: .s :: .s :: .s :: .s :: .s :: .s :: .s :: .k :: []) t0 x, L0⟩) ∧ (k ≤ l.length) ∧ (0 ≤ n ∧ n ≤ 1048576) ∧ (szTs ((toTs l).drop k) n = szTs (toTs l) (left - l.length)) ∧ nn = l.length - k) ?_ ?_
    · exact ⟨_, ⟨0, left - l.length, (), mixI rfl, Nat.zero_le _, ⟨by omega, by omega⟩, rfl, rfl⟩⟩
    · rintro I0 hI0 m s ⟨k, n, _, ⟨x, rfl⟩, g1, ⟨g2, g2'⟩, g3, rfl⟩
      by_cases hlt : k < l.length
      · have hlt' : k < (toTs l).length := by rw [toTs_len]; exact hlt
        have g4 := h4 k hlt'
        rw [szTs_step hlt', toTs_at hlt] at g3
        rw [toTs_at hlt] at g4
        have hga := getD_exs (t := 0) hlt
        have hki : (k : Int) < (l.length : Int) := by omega
        have q1 := gSzE_eq (x := l.getD k ex0) ⟨⟨g2, g2'⟩, g4⟩
        generalize l.getD k ex0 = y at *
        by_cases c2 : szT (toT y.v) n < 0
        · rw [if_pos c2] at g3
          rw [← g3]
          rw [szT_m1 c2] at q1
          repeat' (first | with_reducible first | refine kI (by kernel_rfl) ?_ | refine kN (by kernel_rfl) ?_ | (first | refine kB1 ?_ ?_ | refine kB2 ?_ ?_) <;> intro hp | (first | refine kD1 ?_ ?_ | refine kD2 ?_ ?_ | refine kS1 ?_ ?_ | refine kS2 ?_ ?_) <;> intro hp <;> try simp only [hp] | simp -implicitDefEqProofs (disch := omega) only [go_sem, Nat.reduceAdd, Nat.reduceSub, reduceCtorEq, Nat.reduceLT, Nat.reduceLeDiff, Nat.reduceEqDiff, Nat.reduceMul, Int.reduceToNat, ↓reduceIte, List.take_of_length_le, if_pos, if_neg, List.getElem?_set_self, List.set_set, getD_exs, cnE, cnV, Tryz.ntmps86, Tryz.results86,  hki, hga, hc, q1])
          try rfl
        · rw [if_neg c2] at g3
          have := szT_le c2
          generalize szT (toT y.v) n = z at *
          repeat' (first | with_reducible first | refine kI (by kernel_rfl) ?_ | refine kN (by kernel_rfl) ?_ | (first | refine kB1 ?_ ?_ | refine kB2 ?_ ?_) <;> intro hp | (first | refine kD1 ?_ ?_ | refine kD2 ?_ ?_ | refine kS1 ?_ ?_ | refine kS2 ?_ ?_) <;> intro hp <;> try simp only [hp] | simp -implicitDefEqProofs (disch := omega) only [go_sem, Nat.reduceAdd, Nat.reduceSub, reduceCtorEq, Nat.reduceLT, Nat.reduceLeDiff, Nat.reduceEqDiff, Nat.reduceMul, Int.reduceToNat, ↓reduceIte, List.take_of_length_le, if_pos, if_neg, List.getElem?_set_self, List.set_set, getD_exs, cnE, cnV, Tryz.ntmps86, Tryz.results86,  hki, hga, hc, q1, c2])
          exact ⟨l.length - (k + 1), by omega, hI0 _ _ ⟨k + 1, z, (), mixI rfl, hlt, ⟨by omega, by omega⟩, g3, rfl⟩⟩
      · obtain rfl : k = l.length := by omega
        rw [List.drop_of_length_le (by rw [toTs_len]; exact Nat.le_refl _)] at g3
        rw [← g3]
        repeat' (first | with_reducible first | refine kI (by kernel_rfl) ?_ | refine kN (by kernel_rfl) ?_ | (first | refine kB1 ?_ ?_ | refine kB2 ?_ ?_) <;> intro hp | (first | refine kD1 ?_ ?_ | refine kD2 ?_ ?_ | refine kS1 ?_ ?_ | refine kS2 ?_ ?_) <;> intro hp <;> try simp only [hp] | simp -implicitDefEqProofs (disch := omega) only [go_sem, Nat.reduceAdd, Nat.reduceSub, reduceCtorEq, Nat.reduceLT, Nat.reduceLeDiff, Nat.reduceEqDiff, Nat.reduceMul, Int.reduceToNat, ↓reduceIte, List.take_of_length_le, if_pos, if_neg, List.getElem?_set_self, List.set_set, getD_exs, cnE, cnV, Tryz.ntmps86, Tryz.results86])
        try rfl
def bfBig (B : Bf) : Prop := B.c.length < 9223372036854775808 ∧ B.e.length < 9223372036854775808 ∧ tsrsBig (toTs B.e)
instance (B : Bf) : Decidable (bfBig B) := by unfold bfBig; infer_instance
def szB (B : Bf) (left : Int) : Int := if szI B.c.length left < 0 then -1 else if szTS (toTs B.e) (szI B.c.length left) < 0 then -1 else szTS (toTs B.e) (szI B.c.length left)
def gSzB (B : Bf) (left : Int) : Option Int := gd ((0 ≤ left ∧ left ≤ 1048576) ∧ bfBig B) (szB B left)
theorem gSzB_eq {B : Bf} {left : Int} (h : (0 ≤ left ∧ left ≤ 1048576) ∧ bfBig B) : gSzB B left = some (szB B left) := gd_eq h
set_option maxHeartbeats 4000000 in
set_option maxRecDepth 100000 in
theorem spec_szBuffer {Sg : FuncId → Option (List AV → Option AV)} (hS : Sound Tryz.prog Sg) (h1 : Sg 85 = some (F2 gSzInts)) (h2 : Sg 86 = some (F2 gSzEs)) : ∀ a r, F2 gSzB a = some r → CSpec Tryz.prog 44 a r := by
  refine F2_spec ?_
  intro B left r hr
  obtain ⟨⟨⟨a1, a2⟩, b1, b2, b3⟩, rfl⟩ := gd_some hr
  have q1 := gSzInts_eq (l := B.c) (left := left) ⟨b1, a1, a2⟩
  unfold szB
  by_cases c1 : szI B.c.length left < 0
  · rw [if_pos c1]
    rw [szI_m1 c1] at q1
    refine CSpec.intro Tryz.func44 rfl (own _) (vc3_sound Tryz.pf hS hS _ _ _ ?_)
    repeat' (first | with_reducible first | refine kI (by kernel_rfl) ?_ | refine kN (by kernel_rfl) ?_ | (first | refine kB1 ?_ ?_ | refine kB2 ?_ ?_) <;> intro hp | (first | refine kD1 ?_ ?_ | refine kD2 ?_ ?_ | refine kS1 ?_ ?_ | refine kS2 ?_ ?_) <;> intro hp <;> try simp only [hp] | simp -implicitDefEqProofs (disch := omega) only [go_sem, Nat.reduceAdd, Nat.reduceSub, reduceCtorEq, Nat.reduceLT, Nat.reduceLeDiff, Nat.reduceEqDiff, Nat.reduceMul, Int.reduceToNat, ↓reduceIte, List.take_of_length_le, if_pos, if_neg, List.getElem?_set_self, List.set_set, getD_exs, cnE, cnV, Tryz.ntmps44, Tryz.results44,  h1, q1])
    try rfl
  · rw [if_neg c1]
    have e1 := szI_le c1
    have q2 := gSzEs_eq (l := B.e) (left := szI B.c.length left) ⟨⟨b2, by omega, by omega⟩, b3⟩
    generalize szI B.c.length left = m at *
    by_cases c2 : szTS (toTs B.e) m < 0
    · rw [if_pos c2]
      generalize szTS (toTs B.e) m = n at *
      refine CSpec.intro Tryz.func44 rfl (own _) (vc3_sound Tryz.pf hS hS _ _ _ ?_)
      repeat' (first | with_reducible first | refine kI (by kernel_rfl) ?_ | refine kN (by kernel_rfl) ?_ | (first | refine kB1 ?_ ?_ | refine kB2 ?_ ?_) <;> intro hp | (first | refine kD1 ?_ ?_ | refine kD2 ?_ ?_ | refine kS1 ?_ ?_ | refine kS2 ?_ ?_) <;> intro hp <;> try simp only [hp] | simp -implicitDefEqProofs (disch := omega) only [go_sem, Nat.reduceAdd, Nat.reduceSub, reduceCtorEq, Nat.reduceLT, Nat.reduceLeDiff, Nat.reduceEqDiff, Nat.reduceMul, Int.reduceToNat, ↓reduceIte, List.take_of_length_le, if_pos, if_neg, List.getElem?_set_self, List.set_set, getD_exs, cnE, cnV, Tryz.ntmps44, Tryz.results44,  h1, q1, c1, h2, q2, c2])
      try rfl
    · rw [if_neg c2]
      generalize szTS (toTs B.e) m = n at *
      refine CSpec.intro Tryz.func44 rfl (own _) (vc3_sound Tryz.pf hS hS _ _ _ ?_)
      repeat' (first | with_reducible first | refine kI (by kernel_rfl) ?_ | refine kN (by kernel_rfl) ?_ | (first | refine kB1 ?_ ?_ | refine kB2 ?_ ?_) <;> intro hp | (first | refine kD1 ?_ ?_ | refine kD2 ?_ ?_ | refine kS1 ?_ ?_ | refine kS2 ?_ ?_) <;> intro hp <;> try simp only [hp] | simp -implicitDefEqProofs (disch := omega) only [go_sem, Nat.reduceAdd, Nat.reduceSub, reduceCtorEq, Nat.reduceLT, Nat.reduceLeDiff, Nat.reduceEqDiff, Nat.reduceMul, Int.reduceToNat, ↓reduceIte, List.take_of_length_le, if_pos, if_neg, List.getElem?_set_self, List.set_set, getD_exs, cnE, cnV, Tryz.ntmps44, Tryz.results44,  h1, q1, c1, h2, q2, c2])
      try rfl
def gSzA (a : Ac) (left : Int) : Option Int := gd ((0 ≤ left ∧ left ≤ 1048576) ∧ a.n.length < 9223372036854775808) (szI a.n.length left)
theorem gSzA_eq {a : Ac} {left : Int} (h : (0 ≤ left ∧ left ≤ 1048576) ∧ a.n.length < 9223372036854775808) : gSzA a left = some (szI a.n.length left) := gd_eq h
set_option maxHeartbeats 4000000 in
set_option maxRecDepth 100000 in
theorem spec_szAct {Sg : FuncId → Option (List AV → Option AV)} (hS : Sound Tryz.prog Sg) (h1 : Sg 85 = some (F2 gSzInts)) : ∀ a r, F2 gSzA a = some r → CSpec Tryz.prog 45 a r := by
  refine F2_spec ?_
  rintro ⟨k, n⟩ left r hr
  obtain ⟨⟨⟨a1, a2⟩, b1⟩, rfl⟩ := gd_some hr
  dsimp only at b1 ⊢
  have q1 := gSzInts_eq (l := n) (left := left) ⟨b1, a1, a2⟩
  by_cases c1 : szI n.length left < 0
  · rw [szI_m1 c1] at q1 ⊢
    refine CSpec.intro Tryz.func45 rfl (own _) (vc3_sound Tryz.pf hS hS _ _ _ ?_)
    repeat' (first | with_reducible first | refine kI (by kernel_rfl) ?_ | refine kN (by kernel_rfl) ?_ | (first | refine kB1 ?_ ?_ | refine kB2 ?_ ?_) <;> intro hp | (first | refine kD1 ?_ ?_ | refine kD2 ?_ ?_ | refine kS1 ?_ ?_ | refine kS2 ?_ ?_) <;> intro hp <;> try simp only [hp] | simp -implicitDefEqProofs (disch := omega) only [go_sem, Nat.reduceAdd, Nat.reduceSub, reduceCtorEq, Nat.reduceLT, Nat.reduceLeDiff, Nat.reduceEqDiff, Nat.reduceMul, Int.reduceToNat, ↓reduceIte, List.take_of_length_le, if_pos, if_neg, List.getElem?_set_self, List.set_set, getD_exs, cnE, cnV, Tryz.ntmps45, Tryz.results45,  h1, q1])
    try rfl
  · generalize szI n.length left = m at *
    refine CSpec.intro Tryz.func45 rfl (own _) (vc3_sound Tryz.pf hS hS _ _ _ ?_)
    repeat' (first | with_reducible first | refine kI (by kernel_rfl) ?_ | refine kN (by kernel_rfl) ?_ | (first | refine kB1 ?_ ?_ | refine kB2 ?_ ?_) <;> intro hp | (first | refine kD1 ?_ ?_ | refine kD2 ?_ ?_ | refine kS1 ?_ ?_ | refine kS2 ?_ ?_) <;> intro hp <;> try simp only [hp] | simp -implicitDefEqProofs (disch := omega) only [go_sem, Nat.reduceAdd, Nat.reduceSub, reduceCtorEq, Nat.reduceLT, Nat.reduceLeDiff, Nat.reduceEqDiff, Nat.reduceMul, Int.reduceToNat, ↓reduceIte, List.take_of_length_le, if_pos, if_neg, List.getElem?_set_self, List.set_set, getD_exs, cnE, cnV, Tryz.ntmps45, Tryz.results45,  h1, q1, c1])
    try rfl
def AO (lo hi : Nat) (M : List Blk) (r : AV) (o : Option (Bf × ByteArray)) : Prop := match o with
  | some p => ∃ x, r = .tup [x, .str p.2] ∧ HB lo hi M x p.1
  | none => r = .tup [.agg [.nilS, .nilS], .str ⟨#[]⟩]
theorem AO.frame {N L : List Blk} {v : AV} {o : Option (Bf × ByteArray)} (h : AO 0 N.length N v o) : AO L.length (L.length + N.length) (L ++ N.map (ownB L.length)) (ownV L.length v) o := by
  cases o with
  | none => cases h; rfl
  | some p =>
    obtain ⟨x, rfl, hx⟩ := h
    have := HB.frame (L := L) hx
    obtain ⟨i, be, js, xl, rfl, -⟩ := hx
    exact ⟨_, rfl, this⟩
theorem AO.exp1 {lo hi : Nat} {M : List Blk} {v : AV} {o : Option (Bf × ByteArray)} (h : AO lo hi M v o) : Go.Ev.exp 1 M v = enc 1 (btP o) := by
  cases o with
  | none => cases h; rfl
  | some p =>
    obtain ⟨x, rfl, hx⟩ := h
    have e := hx.exp1
    obtain ⟨i, be, js, xl, rfl, -⟩ := hx
    show AV.tup [expE (expC 1 M) _, .str p.2] = .tup [enc 1 p.1, .str p.2]
    rw [show expE (expC 1 M) (.agg [.sl i p.1.c.length 0 p.1.c.length p.1.c.length, be]) = enc 1 p.1 from e]
theorem AK.frame' {N L : List Blk} {v : AV} {p : Bf × ByteArray} (h : AK N v p) : ∃ x, ownV L.length v = .tup [x, .str p.2] ∧ HB L.length (L.length + N.length) (L ++ N.map (ownB L.length)) x p.1 := by
  obtain ⟨x, rfl, hx⟩ := h
  have := HB.frame (L := L) hx
  obtain ⟨i, be, js, xl, rfl, -⟩ := hx
  exact ⟨_, rfl, this⟩
set_option maxHeartbeats 4000000 in
set_option maxRecDepth 100000 in
theorem isp_ApplyActX {Sg : FuncId → Option (List AV → Option AV)} (hS : Sound Tryz.prog Sg) (hb : Sg 61 = some (F1 gBuf)) (ha : Sg 62 = some (F1 gActB)) (m1 : Sg 53 = none) (B : Bf) (k : Int) (n : List Int) (h1 : bfB B) (h2 : n.length < 4294967296) (hap : AppX) : ISpec Tryz.prog 20 [bfA 0 B, acA 0 ⟨k, n⟩] [] (fun r L' => AO 0 L'.length L' r (appO B ⟨k, n⟩)) := by
  refine ISpec.intro Tryz.func20 rfl (vc3_sound Tryz.pf hS hS _ _ _ ?_)
  have q1 := gBuf_eq h1
  have q2 := gActB_eq (a := ⟨k, n⟩) h2
  unfold appO
  cases e1 : bufOK B with
  | false =>
    rw [e1] at q1
    rw [if_neg (by simp)]
    repeat' (first | with_reducible first | refine kI (by kernel_rfl) ?_ | refine kN (by kernel_rfl) ?_ | (first | refine kB1 ?_ ?_ | refine kB2 ?_ ?_) <;> intro hp | (first | refine kD1 ?_ ?_ | refine kD2 ?_ ?_ | refine kS1 ?_ ?_ | refine kS2 ?_ ?_) <;> intro hp <;> try simp only [hp] | simp -implicitDefEqProofs (disch := omega) only [go_sem, Nat.reduceAdd, Nat.reduceSub, reduceCtorEq, Nat.reduceLT, Nat.reduceLeDiff, Nat.reduceEqDiff, Nat.reduceMul, Int.reduceToNat, ↓reduceIte, List.take_of_length_le, if_pos, if_neg, List.getElem?_set_self, List.set_set, getD_exs, cnE, cnV, Tryz.ntmps20, Tryz.results20,  hb, q1])
    exact rfl
  | true =>
    rw [e1] at q1
    cases e2 : actB ⟨k, n⟩ with
    | false =>
      rw [e2] at q2
      rw [if_neg (by simp)]
      repeat' (first | with_reducible first | refine kI (by kernel_rfl) ?_ | refine kN (by kernel_rfl) ?_ | (first | refine kB1 ?_ ?_ | refine kB2 ?_ ?_) <;> intro hp | (first | refine kD1 ?_ ?_ | refine kD2 ?_ ?_ | refine kS1 ?_ ?_ | refine kS2 ?_ ?_) <;> intro hp <;> try simp only [hp] | simp -implicitDefEqProofs (disch := omega) only [go_sem, Nat.reduceAdd, Nat.reduceSub, reduceCtorEq, Nat.reduceLT, Nat.reduceLeDiff, Nat.reduceEqDiff, Nat.reduceMul, Int.reduceToNat, ↓reduceIte, List.take_of_length_le, if_pos, if_neg, List.getElem?_set_self, List.set_set, getD_exs, cnE, cnV, Tryz.ntmps20, Tryz.results20,  hb, q1, ha, q2])
      exact rfl
    | true =>
      rw [e2] at q2
      rw [if_pos ⟨rfl, rfl⟩]
      have hcall := hap B ⟨k, n⟩ e1 (actB_iff.1 e2)
      generalize appF B ⟨k, n⟩ = p at *
      repeat' (first | with_reducible first | refine kI (by kernel_rfl) ?_ | (first | refine kB1 ?_ ?_ | refine kB2 ?_ ?_) <;> intro hp | (first | refine kD1 ?_ ?_ | refine kD2 ?_ ?_ | refine kS1 ?_ ?_ | refine kS2 ?_ ?_) <;> intro hp <;> try simp only [hp] | simp -implicitDefEqProofs (disch := omega) only [go_sem, Nat.reduceAdd, Nat.reduceSub, reduceCtorEq, Nat.reduceLT, Nat.reduceLeDiff, Nat.reduceEqDiff, Nat.reduceMul, Int.reduceToNat, ↓reduceIte, List.take_of_length_le, if_pos, if_neg, List.getElem?_set_self, List.set_set, getD_exs, cnE, cnV, Tryz.ntmps20, Tryz.results20,  hb, q1, ha, q2, m1, opQ_none])
      refine InlK_intro rfl rfl can_applyActI (callF hcall (by simp only [go_sem, ints]) ?_)
      intro r N hr
      obtain ⟨x, e, i, be, js, xl, rfl, hx, hbd⟩ := AK.frame' (L := [⟨2, [bfA 0 B]⟩, ⟨2, [acA 0 ⟨k, n⟩]⟩, ⟨2, [.agg [.nilS, .nilS]]⟩]) hr
      rw [e]
      generalize N.map (ownB ([⟨2, [bfA 0 B]⟩, ⟨2, [acA 0 ⟨k, n⟩]⟩, ⟨2, [.agg [.nilS, .nilS]]⟩] : List Blk).length) = Z at *
      have hcell := hx.x.cell
      repeat' (first | with_reducible first | refine kI (by kernel_rfl) ?_ | (first | refine kB1 ?_ ?_ | refine kB2 ?_ ?_) <;> intro hp | (first | refine kD1 ?_ ?_ | refine kD2 ?_ ?_ | refine kS1 ?_ ?_ | refine kS2 ?_ ?_) <;> intro hp <;> try simp only [hp] | simp -implicitDefEqProofs (disch := omega) only [go_sem, Nat.reduceAdd, Nat.reduceSub, reduceCtorEq, Nat.reduceLT, Nat.reduceLeDiff, Nat.reduceEqDiff, Nat.reduceMul, Int.reduceToNat, ↓reduceIte, List.take_of_length_le, if_pos, if_neg, List.getElem?_set_self, List.set_set, getD_exs, cnE, cnV, Tryz.ntmps20, Tryz.results20,  hcell])
      exact ⟨_, rfl, HB.fin (P := [_, _, _]) (P' := [_, _, _]) (Y := Z) ⟨i, be, js, xl, rfl, hx, fun b hb => ⟨(hbd b hb).1, hx.lt b hb⟩⟩ (Nat.le_refl _) rfl (by simp only [List.length_append, List.length_cons, List.length_nil]; omega)⟩
end Go.Proofs.YtkmnepmnjpdpkaaGreatDoor
