/- Contracts of functions that the laws of this seat call. -/
import Derived.Test.YtkmnepmnjpdpkaaGreatDoorXXk
set_option linter.all false
namespace Go.Proofs.YtkmnepmnjpdpkaaGreatDoor
open Go Go.Ev Go.RowKit Go.Ev.Enc Go.Pl

def gToA (a : Ac) : Option Ac := gd (a.n.length ≤ 1048576) a
theorem gToA_eq {a : Ac} (h : a.n.length ≤ 1048576) : gToA a = some a := gd_eq h
def gTrueBA (B : Bf) (a : Ac) : Option Bool := gd (bfBig B ∧ a.n.length < 9223372036854775808) true
theorem szB_ok {B : Bf} {left : Int} (hl : left ≤ 1048576) (h : ¬ szB B left < 0) : bfM B ∧ 0 ≤ szB B left ∧ szB B left ≤ 1048576 := by
  unfold szB at h ⊢
  by_cases c1 : szI B.c.length left < 0
  · rw [if_pos c1] at h; omega
  · rw [if_neg c1] at h ⊢
    have e1 := szI_le c1
    by_cases c2 : szTS (toTs B.e) (szI B.c.length left) < 0
    · rw [if_pos c2] at h; omega
    · rw [if_neg c2] at h ⊢
      obtain ⟨k1, k2, k3⟩ := szTS_ok (by omega) c2
      rw [toTs_len] at k1 k2
      refine ⟨⟨by omega, k1, fun i hi => ?_⟩, by omega, by omega⟩
      have := k2 i hi
      rw [toTs_at hi] at this
      exact this
theorem bfB_M {B : Bf} (h : bfM B) : bfB B := by
  obtain ⟨h1, h2, h3⟩ := h
  exact ⟨by omega, by omega, fun i hi => by have := h3 i hi; exact ⟨by have := this.1; omega, by have := this.2; omega⟩⟩
def ToBX : Prop := ∀ B : Bf, bfM B → ISpec Tryz.prog 46 [bfA 0 B] [] (fun r L' => HB 0 L'.length L' r B)
def ToAX : Prop := ∀ (k : Int) (n : List Int), n.length ≤ 1048576 → ISpec Tryz.prog 47 [acA 0 ⟨k, n⟩] [] (fun r L' => ∃ c, r = .agg [i64 k, .sl c n.length 0 n.length n.length] ∧ L'[c]? = some (stB n))
def ApX : Prop := ∀ (B : Bf) (k : Int) (n : List Int), bfB B → n.length < 4294967296 → ISpec Tryz.prog 20 [bfA 0 B, acA 0 ⟨k, n⟩] [] (fun r L' => AO 0 L'.length L' r (appO B ⟨k, n⟩))
def MkBX : Prop := ∀ (B : Bf) (k : Int) (i : Nat) (be : AV) (js : List Nat) (xl : List Px) (L : List Blk), HBx L i be js xl B → bfM B → 0 ≤ k ∧ k ≤ 10000000 → ISpec Tryz.prog 42 [.agg [.sl i B.c.length 0 B.c.length B.c.length, be], i64 k] L (fun r L' => r = i64 (nb k B) ∧ HBx L' i be js (mkL me1P ne1P (k + B.c.length) xl) (mkB k B) ∧ L.length ≤ L'.length ∧ ∀ q, q < L.length → q ∉ i :: (js ++ pxI xl) → L'[q]? = L[q]?)
def MkAX : Prop := ∀ (q : Int) (l : List Int) (k : Int) (b : Nat) (L : List Blk), L[b]? = some (stB l) → l.length < 4294967296 → 0 ≤ k ∧ k ≤ 8000000000000000 → ISpec Tryz.prog 49 [.agg [i64 q, .sl b l.length 0 l.length l.length], i64 k] L (fun r L' => r = i64 (k + l.length) ∧ ∃ Y, L' = L.set b (stB (mks k l.length)) ++ Y)
set_option maxHeartbeats 2000000 in
set_option maxRecDepth 100000 in
theorem isp_markActB {Sg : FuncId → Option (List AV → Option AV)} (hS : Sound Tryz.prog Sg) (hm : Sg 81 = none) (q : Int) (l : List Int) (k : Int) (b : Nat) (L : List Blk) (hb : L[b]? = some (stB l)) (hl : l.length < 4294967296) (hk : 0 ≤ k ∧ k ≤ 8000000000000000) : ISpec Tryz.prog 49 [.agg [i64 q, .sl b l.length 0 l.length l.length], i64 k] L (fun r L' => r = i64 (k + l.length) ∧ ∃ Y, L' = L.set b (stB (mks k l.length)) ++ Y) := by
  refine ISpec.intro Tryz.func49 rfl (vc_sound Tryz.pf hS _ _ _ ?_)
  have hbl : b < L.length := (List.getElem?_eq_some_iff.1 hb).1
  repeat' (first | with_reducible first | refine kI (by kernel_rfl) ?_ | refine kN (by kernel_rfl) ?_ | (first | refine kB1 ?_ ?_ | refine kB2 ?_ ?_) <;> intro hp | (first | refine kD1 ?_ ?_ | refine kD2 ?_ ?_ | refine kS1 ?_ ?_ | refine kS2 ?_ ?_) <;> intro hp <;> try simp only [hp] | simp -implicitDefEqProofs (disch := omega) only [go_sem, Nat.reduceAdd, Nat.reduceSub, reduceCtorEq, Nat.reduceLT, Nat.reduceLeDiff, Nat.reduceEqDiff, Nat.reduceMul, Int.reduceToNat, ↓reduceIte, List.take_of_length_le, if_pos, if_neg, List.getElem?_set_self, List.set_set, getD_exs, cnE, cnV, Tryz.ntmps49, Tryz.results49,  hm, opQ_none])
  refine InlK_intro rfl rfl can_markI ((isp_markIntB hS l k b _ (by rw [List.getElem?_append_left hbl]; exact hb) hl (by omega)).mono ?_)
  rintro r L1 ⟨rfl, rfl⟩
  rw [List.set_append_left _ _ hbl]
  repeat' (first | with_reducible first | refine kI (by kernel_rfl) ?_ | refine kN (by kernel_rfl) ?_ | (first | refine kB1 ?_ ?_ | refine kB2 ?_ ?_) <;> intro hp | (first | refine kD1 ?_ ?_ | refine kD2 ?_ ?_ | refine kS1 ?_ ?_ | refine kS2 ?_ ?_) <;> intro hp <;> try simp only [hp] | simp -implicitDefEqProofs (disch := omega) only [go_sem, Nat.reduceAdd, Nat.reduceSub, reduceCtorEq, Nat.reduceLT, Nat.reduceLeDiff, Nat.reduceEqDiff, Nat.reduceMul, Int.reduceToNat, ↓reduceIte, List.take_of_length_le, if_pos, if_neg, List.getElem?_set_self, List.set_set, getD_exs, cnE, cnV, Tryz.ntmps49, Tryz.results49])
  exact ⟨_, rfl⟩
theorem nb_le {B : Bf} (h : bfM B) : 0 ≤ nb 1 B ∧ nb 1 B ≤ 3000000000000 := by
  obtain ⟨h1, h2, h3⟩ := h
  have := nxL_le (n := ne1) (k := 1 + B.c.length) (l := B.e) (c := 2097155) (by
    intro a ha k
    obtain ⟨j, hj, rfl⟩ := List.mem_iff_getElem.1 ha
    have := h3 j hj
    rw [show B.e.getD j ex0 = B.e[j] by simp [hj]] at this
    have a1 := this.1
    have a2 := this.2
    unfold ne1
    omega)
  unfold nb
  omega
theorem can_ApplyActI : CanCall Tryz.prog 20 := ⟨_, Tryz.func20, rfl, rfl⟩
set_option maxHeartbeats 2000000 in
set_option maxRecDepth 100000 in
theorem isp_markBufferZ {Sg : FuncId → Option (List AV → Option AV)} (hS : Sound Tryz.prog Sg) (n1 : Sg 81 = none) (n2 : Sg 82 = none) (k : Int) (L : List Blk) : ISpec Tryz.prog 42 [.agg [.nilS, .nilS], i64 k] L (fun r L' => r = i64 k ∧ ∃ Y, L' = L ++ Y) := by
  refine ISpec.intro Tryz.func42 rfl (vc_sound Tryz.pf hS _ _ _ ?_)
  repeat' (first | with_reducible first | refine kI (by kernel_rfl) ?_ | refine kN (by kernel_rfl) ?_ | (first | refine kB1 ?_ ?_ | refine kB2 ?_ ?_) <;> intro hp | (first | refine kD1 ?_ ?_ | refine kD2 ?_ ?_ | refine kS1 ?_ ?_ | refine kS2 ?_ ?_) <;> intro hp <;> try simp only [hp] | simp -implicitDefEqProofs (disch := omega) only [go_sem, Nat.reduceAdd, Nat.reduceSub, reduceCtorEq, Nat.reduceLT, Nat.reduceLeDiff, Nat.reduceEqDiff, Nat.reduceMul, Int.reduceToNat, ↓reduceIte, List.take_of_length_le, if_pos, if_neg, List.getElem?_set_self, List.set_set, getD_exs, cnE, cnV, Tryz.ntmps42, Tryz.results42,  n1, opQ_none])
  refine InlK_intro rfl rfl can_markI ((isp_markIntZ hS _ _).mono ?_)
  rintro r L1 ⟨rfl, rfl⟩
  repeat' (first | with_reducible first | refine kI (by kernel_rfl) ?_ | refine kN (by kernel_rfl) ?_ | (first | refine kB1 ?_ ?_ | refine kB2 ?_ ?_) <;> intro hp | (first | refine kD1 ?_ ?_ | refine kD2 ?_ ?_ | refine kS1 ?_ ?_ | refine kS2 ?_ ?_) <;> intro hp <;> try simp only [hp] | simp -implicitDefEqProofs (disch := omega) only [go_sem, Nat.reduceAdd, Nat.reduceSub, reduceCtorEq, Nat.reduceLT, Nat.reduceLeDiff, Nat.reduceEqDiff, Nat.reduceMul, Int.reduceToNat, ↓reduceIte, List.take_of_length_le, if_pos, if_neg, List.getElem?_set_self, List.set_set, getD_exs, cnE, cnV, Tryz.ntmps42, Tryz.results42,  n2, opQ_none])
  refine InlK_intro rfl rfl can_markES ((isp_markExportZ hS _ _).mono ?_)
  rintro r L1 ⟨rfl, rfl⟩
  repeat' (first | with_reducible first | refine kI (by kernel_rfl) ?_ | refine kN (by kernel_rfl) ?_ | (first | refine kB1 ?_ ?_ | refine kB2 ?_ ?_) <;> intro hp | (first | refine kD1 ?_ ?_ | refine kD2 ?_ ?_ | refine kS1 ?_ ?_ | refine kS2 ?_ ?_) <;> intro hp <;> try simp only [hp] | simp -implicitDefEqProofs (disch := omega) only [go_sem, Nat.reduceAdd, Nat.reduceSub, reduceCtorEq, Nat.reduceLT, Nat.reduceLeDiff, Nat.reduceEqDiff, Nat.reduceMul, Int.reduceToNat, ↓reduceIte, List.take_of_length_le, if_pos, if_neg, List.getElem?_set_self, List.set_set, getD_exs, cnE, cnV, Tryz.ntmps42, Tryz.results42])
  exact ⟨_, rfl⟩
def MkBZX : Prop := ∀ (k : Int) (L : List Blk), ISpec Tryz.prog 42 [.agg [.nilS, .nilS], i64 k] L (fun r L' => r = i64 k ∧ ∃ Y, L' = L ++ Y)
set_option maxHeartbeats 8000000 in
set_option maxRecDepth 100000 in
theorem law_ExactApplyAct {Sg Sd : FuncId → Option (List AV → Option AV)} (hS : Sound Tryz.prog Sg) (hD : Sound Tryz.prog Sd) (hz : Sg 44 = some (F2 gSzB)) (hza : Sg 45 = some (F2 gSzA)) (n1 : Sg 46 = none) (d1 : Sd 46 = some (F1 gCpB)) (n2 : Sg 47 = none) (d2 : Sd 47 = some (F1 gToA)) (d3 : Sd 29 = some (F2 gAppX)) (n3 : Sg 20 = none) (d4 : Sd 20 = some (F2 gAppX)) (he : Sg 41 = some (F2 gEqB)) (e1 : Sd 41 = some (F2 gEqB)) (e2 : Sd 48 = some (F2 gEqX)) (n4 : Sg 42 = none) (n5 : Sg 49 = none) (hh : Sg 43 = some (F2 gHeldB)) (hto : ToBX) (hta : ToAX) (him : ApX) (hm : MkBX) (hmz : MkBZX) (hma : MkAX) : ∀ a r, F2 gTrueBA a = some r → CSpec Tryz.prog 12 a r := by
  refine F2_spec ?_
  rintro B ⟨k, n⟩ r hr
  obtain ⟨⟨hbig, hnb⟩, rfl⟩ := gd_some hr
  dsimp only at hnb
  have q1 := gSzB_eq (B := B) (left := 1048576) ⟨by omega, hbig⟩
  by_cases c1 : szB B 1048576 < 0
  · refine law3 Tryz.func12 rfl Tryz.pf hS hD ?_
    repeat' (first | with_reducible first | refine kI (by kernel_rfl) ?_ | refine kN (by kernel_rfl) ?_ | (first | refine kB1 ?_ ?_ | refine kB2 ?_ ?_) <;> intro hp | (first | refine kD1 ?_ ?_ | refine kD2 ?_ ?_ | refine kS1 ?_ ?_ | refine kS2 ?_ ?_) <;> intro hp <;> try simp only [hp] | simp -implicitDefEqProofs (disch := omega) only [go_sem, Nat.reduceAdd, Nat.reduceSub, reduceCtorEq, Nat.reduceLT, Nat.reduceLeDiff, Nat.reduceEqDiff, Nat.reduceMul, Int.reduceToNat, ↓reduceIte, List.take_of_length_le, if_pos, if_neg, List.getElem?_set_self, List.set_set, getD_exs, cnE, cnV, Tryz.ntmps12, Tryz.results12,  hz, q1, c1])
  obtain ⟨hM, m1, m2⟩ := szB_ok (by omega) c1
  have q2 := gSzA_eq (a := ⟨k, n⟩) (left := szB B 1048576) ⟨⟨m1, m2⟩, hnb⟩
  dsimp only at q2
  generalize szB B 1048576 = m at *
  by_cases c2 : szI n.length m < 0
  · refine law3 Tryz.func12 rfl Tryz.pf hS hD ?_
    repeat' (first | with_reducible first | refine kI (by kernel_rfl) ?_ | refine kN (by kernel_rfl) ?_ | (first | refine kB1 ?_ ?_ | refine kB2 ?_ ?_) <;> intro hp | (first | refine kD1 ?_ ?_ | refine kD2 ?_ ?_ | refine kS1 ?_ ?_ | refine kS2 ?_ ?_) <;> intro hp <;> try simp only [hp] | simp -implicitDefEqProofs (disch := omega) only [go_sem, Nat.reduceAdd, Nat.reduceSub, reduceCtorEq, Nat.reduceLT, Nat.reduceLeDiff, Nat.reduceEqDiff, Nat.reduceMul, Int.reduceToNat, ↓reduceIte, List.take_of_length_le, if_pos, if_neg, List.getElem?_set_self, List.set_set, getD_exs, cnE, cnV, Tryz.ntmps12, Tryz.results12,  hz, q1, c1, hza, q2, c2])
  have s1 := szI_le c2
  generalize szI n.length m = mm at *
  have hnl : n.length ≤ 1048576 := by omega
  have hBB := bfB_M hM
  have t1 := gCpB_eq hM
  have t2 := gToA_eq (a := ⟨k, n⟩) hnl
  have t3 := gAppX_eq (B := B) (a := ⟨k, n⟩) ⟨hBB, by dsimp only; omega⟩
  have hcall := him B k n hBB (by omega)
  have hb1 := hto B hM
  have ha1 := hta k n hnl
  have qb := gEqB_eq hBB hBB
  rw [decide_eq_true rfl] at qb
  have qa := gEqX_eq (a := ⟨k, n⟩) (b := ⟨k, n⟩) (by dsimp only; omega) (by dsimp only; omega)
  rw [decide_eq_true rfl] at qa
  cases hp : appO B ⟨k, n⟩ with
  | none =>
    rw [hp] at t3 hcall
    simp only [btP] at t3
    obtain ⟨G, hG⟩ : ∃ G : Bf × ByteArray, G = (⟨[], []⟩, ⟨#[]⟩) := ⟨_, rfl⟩
    rw [← hG] at t3
    obtain ⟨⟨c, e⟩, s⟩ := G
    simp only [Prod.mk.injEq, Bf.mk.injEq] at hG
    obtain ⟨⟨hc0, he0⟩, hs0⟩ := hG
    have qg : gEqB ⟨[], []⟩ ⟨c, e⟩ = some true := by rw [hc0, he0]; rfl
    have qg2 : gEqB ⟨c, e⟩ ⟨c, e⟩ = some true := by rw [hc0, he0]; rfl
    have hs1 : ((⟨#[]⟩ : ByteArray).toList == s.toList) = true := by rw [hs0]; exact strEq_t _
    have hs2 := strEq_t s
    clear hc0 he0 hs0
    refine law3 Tryz.func12 rfl Tryz.pf hS hD ?_
    repeat' (first | with_reducible first | refine kI (by kernel_rfl) ?_ | (first | refine kB1 ?_ ?_ | refine kB2 ?_ ?_) <;> intro hp | (first | refine kD1 ?_ ?_ | refine kD2 ?_ ?_ | refine kS1 ?_ ?_ | refine kS2 ?_ ?_) <;> intro hp <;> try simp only [hp] | simp -implicitDefEqProofs (disch := omega) only [go_sem, Nat.reduceAdd, Nat.reduceSub, reduceCtorEq, Nat.reduceLT, Nat.reduceLeDiff, Nat.reduceEqDiff, Nat.reduceMul, Int.reduceToNat, ↓reduceIte, List.take_of_length_le, if_pos, if_neg, List.getElem?_set_self, List.set_set, getD_exs, cnE, cnV, Tryz.ntmps12, Tryz.results12,  hz, q1, c1, hza, q2, c2])
    refine DrawQ.any [([0, 1, 2, 3, 4, 5, 6, 7, 8], 9)] [10] [7] (by kernel_rfl) ?_
    repeat' (first | with_reducible first | refine kI (by kernel_rfl) ?_ | (first | refine kB1 ?_ ?_ | refine kB2 ?_ ?_) <;> intro hp | (first | refine kD1 ?_ ?_ | refine kD2 ?_ ?_ | refine kS1 ?_ ?_ | refine kS2 ?_ ?_) <;> intro hp <;> try simp only [hp] | simp -implicitDefEqProofs (disch := omega) only [go_sem, Nat.reduceAdd, Nat.reduceSub, reduceCtorEq, Nat.reduceLT, Nat.reduceLeDiff, Nat.reduceEqDiff, Nat.reduceMul, Int.reduceToNat, ↓reduceIte, List.take_of_length_le, if_pos, if_neg, List.getElem?_set_self, List.set_set, getD_exs, cnE, cnV, Tryz.ntmps12, Tryz.results12,  d1, t1, d2, t2, d3, t3, n1, opQ_none])
    refine InlK_intro rfl rfl can_toB (callF hb1 (by simp only [go_sem, ints]) ?_)
    intro v N hv
    obtain ⟨i1, be1, js1, xl1, e1', hx1, hd1⟩ := HB.frame (L := [⟨2, [bfA 0 B]⟩, ⟨2, [acA 0 ⟨k, n⟩]⟩, ⟨2, [bfA 1 ⟨c, e⟩]⟩]) hv
    rw [e1']
    obtain ⟨X1, hX1⟩ : ∃ X1, [⟨2, [bfA 0 B]⟩, ⟨2, [acA 0 ⟨k, n⟩]⟩, ⟨2, [bfA 1 ⟨c, e⟩]⟩] ++ N.map (ownB ([⟨2, [bfA 0 B]⟩, ⟨2, [acA 0 ⟨k, n⟩]⟩, ⟨2, [bfA 1 ⟨c, e⟩]⟩] : List Blk).length) = X1 := ⟨_, rfl⟩
    rw [hX1] at hx1 ⊢
    have x10 : X1[0]? = some ⟨2, [bfA 0 B]⟩ := by rw [← hX1]; rfl
    have x11 : X1[1]? = some ⟨2, [acA 0 ⟨k, n⟩]⟩ := by rw [← hX1]; rfl
    have x12 : X1[2]? = some ⟨2, [bfA 1 ⟨c, e⟩]⟩ := by rw [← hX1]; rfl
    have id1 : ∀ b ∈ i1 :: (js1 ++ pxI xl1), 3 ≤ b ∧ b < X1.length := fun b hb => ⟨(hd1 b hb).1, hx1.lt b hb⟩
    clear hX1 hd1 hv e1' N v
    have hc1 := hx1.x.cell
    have l1 := (List.getElem?_eq_some_iff.1 x12).1
    repeat' (first | with_reducible first | refine kI (by kernel_rfl) ?_ | (first | refine kB1 ?_ ?_ | refine kB2 ?_ ?_) <;> intro hp | (first | refine kD1 ?_ ?_ | refine kD2 ?_ ?_ | refine kS1 ?_ ?_ | refine kS2 ?_ ?_) <;> intro hp <;> try simp only [hp] | simp -implicitDefEqProofs (disch := omega) only [go_sem, Nat.reduceAdd, Nat.reduceSub, reduceCtorEq, Nat.reduceLT, Nat.reduceLeDiff, Nat.reduceEqDiff, Nat.reduceMul, Int.reduceToNat, ↓reduceIte, List.take_of_length_le, if_pos, if_neg, List.getElem?_set_self, List.set_set, getD_exs, cnE, cnV, Tryz.ntmps12, Tryz.results12,  hc1, fun Z => get_ext x10 Z, fun Z => get_ext x11 Z, fun Z => get_ext x12 Z, n2, opQ_none])
    refine InlK_intro rfl rfl can_toA (callF ha1 (by simp only [go_sem, ints]) ?_)
    rintro v N ⟨c0, rfl, hc0⟩
    obtain ⟨X2, hX2⟩ : ∃ X2, (X1 ++ [⟨2, [.agg [.sl i1 B.c.length 0 B.c.length B.c.length, be1]]⟩]) ++ N.map (ownB (X1 ++ [⟨2, [.agg [.sl i1 B.c.length 0 B.c.length B.c.length, be1]]⟩] : List Blk).length) = X2 := ⟨_, rfl⟩
    rw [hX2]
    obtain ⟨c3, hc3⟩ : ∃ c3, (X1 ++ [⟨2, [.agg [.sl i1 B.c.length 0 B.c.length B.c.length, be1]]⟩] : List Blk).length + c0 = c3 := ⟨_, rfl⟩
    have hov : ownV (X1 ++ [⟨2, [.agg [.sl i1 B.c.length 0 B.c.length B.c.length, be1]]⟩] : List Blk).length (.agg [i64 k, .sl c0 n.length 0 n.length n.length]) = .agg [i64 k, .sl c3 n.length 0 n.length n.length] := by rw [← hc3]; rfl
    rw [hov]
    have x2c : X2[c3]? = some (stB n) := by rw [← hX2, ← hc3]; exact get_frs hc0
    have up2 : ∀ (q : Nat) (K : Blk), X1[q]? = some K → X2[q]? = some K := fun q K h => by rw [← hX2]; exact get_ext (get_ext h _) _
    have x2p : X2[X1.length]? = some ⟨2, [.agg [.sl i1 B.c.length 0 B.c.length B.c.length, be1]]⟩ := by rw [← hX2]; exact get_ext (by simp) _
    have hc3l : X1.length + 1 ≤ c3 := by rw [← hc3]; simp
    have hx2 : HBx X2 i1 be1 js1 xl1 B := by rw [← hX2]; exact (hx1.ext _).ext _
    have l2 : X1.length + 1 ≤ X2.length := by have := (List.getElem?_eq_some_iff.1 x2c).1; omega
    clear hX2 hc3 hov hc0 N c0
    have y2p := fun Z : List Blk => get_ext x2p Z
    have hxa2 := hx2.ext [⟨2, [.agg [i64 k, .sl c3 n.length 0 n.length n.length]]⟩]
    have hxc2 := hxa2.c
    have hxe2 := hxa2.exp
    have y2c := fun Z : List Blk => get_ext x2c Z
    repeat' (first | with_reducible first | refine kI (by kernel_rfl) ?_ | (first | refine kB1 ?_ ?_ | refine kB2 ?_ ?_) <;> intro hp | (first | refine kD1 ?_ ?_ | refine kD2 ?_ ?_ | refine kS1 ?_ ?_ | refine kS2 ?_ ?_) <;> intro hp <;> try simp only [hp] | simp -implicitDefEqProofs (disch := omega) only [go_sem, Nat.reduceAdd, Nat.reduceSub, reduceCtorEq, Nat.reduceLT, Nat.reduceLeDiff, Nat.reduceEqDiff, Nat.reduceMul, Int.reduceToNat, ↓reduceIte, List.take_of_length_le, if_pos, if_neg, List.getElem?_set_self, List.set_set, getD_exs, cnE, cnV, Tryz.ntmps12, Tryz.results12,  y2p, n3, opQ_none])
    refine InlK_intro rfl rfl can_ApplyActI (callF hcall (by simp -implicitDefEqProofs (disch := omega) only [go_sem, ints, List.take_of_length_le, hxc2, hxe2, y2c]) ?_)
    intro v N hv
    have e3 := AO.frame (L := X2 ++ [⟨2, [.agg [i64 k, .sl c3 n.length 0 n.length n.length]]⟩]) hv
    simp only [AO] at e3
    rw [e3]
    obtain ⟨X3, hX3⟩ : ∃ X3, (X2 ++ [⟨2, [.agg [i64 k, .sl c3 n.length 0 n.length n.length]]⟩]) ++ N.map (ownB (X2 ++ [⟨2, [.agg [i64 k, .sl c3 n.length 0 n.length n.length]]⟩] : List Blk).length) = X3 := ⟨_, rfl⟩
    rw [hX3]
    have up3 : ∀ (q : Nat) (K : Blk), X2[q]? = some K → X3[q]? = some K := fun q K h => by rw [← hX3]; exact get_ext (get_ext h _) _
    have x3q : X3[X2.length]? = some ⟨2, [.agg [i64 k, .sl c3 n.length 0 n.length n.length]]⟩ := by rw [← hX3]; exact get_ext (by simp) _
    have hx3 : HBx X3 i1 be1 js1 xl1 B := by rw [← hX3]; exact hxa2.ext _
    have l3 : X2.length + 1 ≤ X3.length := by have := (List.getElem?_eq_some_iff.1 x3q).1; omega
    clear hX3 hv e3 N v hxa2 hxc2 hxe2 y2p y2c
    have x30 := up3 _ _ (up2 _ _ x10)
    have x31 := up3 _ _ (up2 _ _ x11)
    have x32 := up3 _ _ (up2 _ _ x12)
    have x3p := up3 _ _ x2p
    have x3c := up3 _ _ x2c
    have c3l2 := (List.getElem?_eq_some_iff.1 x2c).1
    clear up3 up2 x10 x11 x12 x2p x2c hx1 hx2
    have htk : ∀ A : Blk, (X3 ++ [A]).take (X3.length + 1) = X3 ++ [A] := fun A => List.take_of_length_le (by simp)
    have h1a := hx3.ext [⟨2, [.agg [.nilS, .nilS]]⟩]
    have h1c := h1a.c
    have h1e := h1a.exp
    have hc1 := h1a.x.cell
    have z0 := fun Z : List Blk => get_ext x30 Z
    have z1 := fun Z : List Blk => get_ext x31 Z
    have z2 := fun Z : List Blk => get_ext x32 Z
    have zp := fun Z : List Blk => get_ext x3p Z
    have zq := fun Z : List Blk => get_ext x3q Z
    have zc := fun Z : List Blk => get_ext x3c Z
    repeat' (first | with_reducible first | refine kI (by kernel_rfl) ?_ | refine kN (by kernel_rfl) ?_ | (first | refine kB1 ?_ ?_ | refine kB2 ?_ ?_) <;> intro hp | (first | refine kD1 ?_ ?_ | refine kD2 ?_ ?_ | refine kS1 ?_ ?_ | refine kS2 ?_ ?_) <;> intro hp <;> try simp only [hp] | simp -implicitDefEqProofs (disch := omega) only [go_sem, Nat.reduceAdd, Nat.reduceSub, reduceCtorEq, Nat.reduceLT, Nat.reduceLeDiff, Nat.reduceEqDiff, Nat.reduceMul, Int.reduceToNat, ↓reduceIte, List.take_of_length_le, if_pos, if_neg, List.getElem?_set_self, List.set_set, getD_exs, cnE, cnV, Tryz.ntmps12, Tryz.results12,  z2, htk, he, qg, hs1, qg2, hs2, z0, z1, zp, zq, zc, h1c, h1e, d1, t1, d2, t2, e1, qb, e2, qa, n4, opQ_none])
    refine InlK_intro rfl rfl can_markB ((hm B 1 i1 be1 js1 xl1 _ h1a hM (by omega)).mono ?_)
    rintro r M1 ⟨rfl, -, m3, m4⟩
    rw [List.length_append, List.length_singleton] at m3 m4
    have kk : ∀ (q : Nat) (K : Blk), (q < 3 ∨ X1.length ≤ q) → (X3 ++ [(⟨2, [.agg [.nilS, .nilS]]⟩ : Blk)])[q]? = some K → M1[q]? = some K := fun q K hq h => by
      have hl := (List.getElem?_eq_some_iff.1 h).1
      rw [List.length_append, List.length_singleton] at hl
      rw [m4 q hl fun hm => by have := id1 q hm; omega]; exact h
    have w2 := kk 2 _ (by omega) (z2 _)
    have wq := kk X2.length _ (by omega) (zq _)
    have wr := kk X3.length ⟨2, [.agg [.nilS, .nilS]]⟩ (by omega) (by simp)
    have wc := kk c3 _ (by omega) (zc _)
    have w0 := kk 0 _ (by omega) (z0 _)
    have w1 := kk 1 _ (by omega) (z1 _)
    have c3l := (List.getElem?_eq_some_iff.1 x3c).1
    have hnbl := nb_le hM
    have wn : IntKind.i64.wrap (nb 1 B) = nb 1 B := wrap_in (by omega)
    repeat' (first | with_reducible first | refine kI (by kernel_rfl) ?_ | refine kN (by kernel_rfl) ?_ | (first | refine kB1 ?_ ?_ | refine kB2 ?_ ?_) <;> intro hp | (first | refine kD1 ?_ ?_ | refine kD2 ?_ ?_ | refine kS1 ?_ ?_ | refine kS2 ?_ ?_) <;> intro hp <;> try simp only [hp] | simp -implicitDefEqProofs (disch := omega) only [go_sem, Nat.reduceAdd, Nat.reduceSub, reduceCtorEq, Nat.reduceLT, Nat.reduceLeDiff, Nat.reduceEqDiff, Nat.reduceMul, Int.reduceToNat, ↓reduceIte, List.take_of_length_le, if_pos, if_neg, List.getElem?_set_self, List.set_set, getD_exs, cnE, cnV, Tryz.ntmps12, Tryz.results12,  wq, n5, opQ_none])
    refine InlK_intro rfl rfl can_markA ((hma k n (nb 1 B) c3 M1 wc (by omega) (by omega)).mono ?_)
    rintro r L1 ⟨rfl, Y5, hL1⟩
    have kk2 : ∀ (q : Nat) (K : Blk), q ≠ c3 → M1[q]? = some K → L1[q]? = some K := fun q K hq h => by
      rw [hL1]; exact get_ext (by rw [List.getElem?_set_ne (Ne.symm hq)]; exact h) _
    have v2 := kk2 2 _ (by omega) w2
    have v0 := kk2 0 _ (by omega) w0
    have v1 := kk2 1 _ (by omega) w1
    have vr := kk2 X3.length _ (by omega) wr
    have wk : ¬ (nb 1 B + (n.length : Int) < 0) := by omega
    repeat' (first | with_reducible first | refine kI (by kernel_rfl) ?_ | refine kN (by kernel_rfl) ?_ | (first | refine kB1 ?_ ?_ | refine kB2 ?_ ?_) <;> intro hp | (first | refine kD1 ?_ ?_ | refine kD2 ?_ ?_ | refine kS1 ?_ ?_ | refine kS2 ?_ ?_) <;> intro hp <;> try simp only [hp] | simp -implicitDefEqProofs (disch := omega) only [go_sem, Nat.reduceAdd, Nat.reduceSub, reduceCtorEq, Nat.reduceLT, Nat.reduceLeDiff, Nat.reduceEqDiff, Nat.reduceMul, Int.reduceToNat, ↓reduceIte, List.take_of_length_le, if_pos, if_neg, List.getElem?_set_self, List.set_set, getD_exs, cnE, cnV, Tryz.ntmps12, Tryz.results12,  vr, v2, wk, he, qg, hs1, qg2, hs2, n4, opQ_none])
    refine InlK_intro rfl rfl can_markB ((hmz 1 L1).mono ?_)
    rintro r M3 ⟨rfl, Y6, hM3⟩
    have qh : gHeldB ⟨[], []⟩ 1 = some 1 := rfl
    have wk2 : ¬ ((1 : Int) < 0) := by decide
    have kk3 : ∀ (q : Nat) (K : Blk), L1[q]? = some K → M3[q]? = some K := fun q K h => by rw [hM3]; exact get_ext h _
    have r2 := kk3 2 _ v2
    have r0 := kk3 0 _ v0
    have r1 := kk3 1 _ v1
    have rr := kk3 X3.length _ vr
    repeat' (first | with_reducible first | refine kI (by kernel_rfl) ?_ | (first | refine kB1 ?_ ?_ | refine kB2 ?_ ?_) <;> intro hp | (first | refine kD1 ?_ ?_ | refine kD2 ?_ ?_ | refine kS1 ?_ ?_ | refine kS2 ?_ ?_) <;> intro hp <;> try simp only [hp] | simp -implicitDefEqProofs (disch := omega) only [go_sem, Nat.reduceAdd, Nat.reduceSub, reduceCtorEq, Nat.reduceLT, Nat.reduceLeDiff, Nat.reduceEqDiff, Nat.reduceMul, Int.reduceToNat, ↓reduceIte, List.take_of_length_le, if_pos, if_neg, List.getElem?_set_self, List.set_set, getD_exs, cnE, cnV, Tryz.ntmps12, Tryz.results12,  rr, r2, hh, qh, wk2])
    refine DrawQ.any [([0, 1, 2, 3, 4, 5, 6, 7, 8], 9)] [10] [7] (by kernel_rfl) ?_
    have htk3 : ∀ A : Blk, (M3 ++ [A]).take (M3.length + 1) = M3 ++ [A] := fun A => List.take_of_length_le (by simp)
    repeat' (first | with_reducible first | refine kI (by kernel_rfl) ?_ | (first | refine kB1 ?_ ?_ | refine kB2 ?_ ?_) <;> intro hp | (first | refine kD1 ?_ ?_ | refine kD2 ?_ ?_ | refine kS1 ?_ ?_ | refine kS2 ?_ ?_) <;> intro hp <;> try simp only [hp] | simp -implicitDefEqProofs (disch := omega) only [go_sem, Nat.reduceAdd, Nat.reduceSub, reduceCtorEq, Nat.reduceLT, Nat.reduceLeDiff, Nat.reduceEqDiff, Nat.reduceMul, Int.reduceToNat, ↓reduceIte, List.take_of_length_le, if_pos, if_neg, List.getElem?_set_self, List.set_set, getD_exs, cnE, cnV, Tryz.ntmps12, Tryz.results12,  htk3, r0, r1, d1, t1, d2, t2, d4, t3, fun Z => get_ext r2 Z, fun Z => get_ext rr Z, he, qg, hs1, qg2, hs2, hh, qh, wk2])
  | some p =>
    have hok : bufOK p.1 = true := by
      unfold appO at hp
      split at hp
      · rename_i h9
        cases hp
        exact app_ok h9.1
      · cases hp
    rw [hp] at t3 hcall
    simp only [btP] at t3
    obtain ⟨⟨c, e⟩, s⟩ := p
    dsimp only at hok
    refine law3 Tryz.func12 rfl Tryz.pf hS hD ?_
    repeat' (first | with_reducible first | refine kI (by kernel_rfl) ?_ | (first | refine kB1 ?_ ?_ | refine kB2 ?_ ?_) <;> intro hp | (first | refine kD1 ?_ ?_ | refine kD2 ?_ ?_ | refine kS1 ?_ ?_ | refine kS2 ?_ ?_) <;> intro hp <;> try simp only [hp] | simp -implicitDefEqProofs (disch := omega) only [go_sem, Nat.reduceAdd, Nat.reduceSub, reduceCtorEq, Nat.reduceLT, Nat.reduceLeDiff, Nat.reduceEqDiff, Nat.reduceMul, Int.reduceToNat, ↓reduceIte, List.take_of_length_le, if_pos, if_neg, List.getElem?_set_self, List.set_set, getD_exs, cnE, cnV, Tryz.ntmps12, Tryz.results12,  hz, q1, c1, hza, q2, c2])
    refine DrawQ.any [([0, 1, 2, 3, 4, 5, 6, 7, 8], 9)] [10] [7] (by kernel_rfl) ?_
    repeat' (first | with_reducible first | refine kI (by kernel_rfl) ?_ | (first | refine kB1 ?_ ?_ | refine kB2 ?_ ?_) <;> intro hp | (first | refine kD1 ?_ ?_ | refine kD2 ?_ ?_ | refine kS1 ?_ ?_ | refine kS2 ?_ ?_) <;> intro hp <;> try simp only [hp] | simp -implicitDefEqProofs (disch := omega) only [go_sem, Nat.reduceAdd, Nat.reduceSub, reduceCtorEq, Nat.reduceLT, Nat.reduceLeDiff, Nat.reduceEqDiff, Nat.reduceMul, Int.reduceToNat, ↓reduceIte, List.take_of_length_le, if_pos, if_neg, List.getElem?_set_self, List.set_set, getD_exs, cnE, cnV, Tryz.ntmps12, Tryz.results12,  d1, t1, d2, t2, d3, t3, n1, opQ_none])
    refine InlK_intro rfl rfl can_toB (callF hb1 (by simp only [go_sem, ints]) ?_)
    intro v N hv
    obtain ⟨i1, be1, js1, xl1, e1', hx1, hd1⟩ := HB.frame (L := [⟨2, [bfA 0 B]⟩, ⟨2, [acA 0 ⟨k, n⟩]⟩, ⟨2, [bfA 1 ⟨c, e⟩]⟩]) hv
    rw [e1']
    obtain ⟨X1, hX1⟩ : ∃ X1, [⟨2, [bfA 0 B]⟩, ⟨2, [acA 0 ⟨k, n⟩]⟩, ⟨2, [bfA 1 ⟨c, e⟩]⟩] ++ N.map (ownB ([⟨2, [bfA 0 B]⟩, ⟨2, [acA 0 ⟨k, n⟩]⟩, ⟨2, [bfA 1 ⟨c, e⟩]⟩] : List Blk).length) = X1 := ⟨_, rfl⟩
    rw [hX1] at hx1 ⊢
    have x10 : X1[0]? = some ⟨2, [bfA 0 B]⟩ := by rw [← hX1]; rfl
    have x11 : X1[1]? = some ⟨2, [acA 0 ⟨k, n⟩]⟩ := by rw [← hX1]; rfl
    have x12 : X1[2]? = some ⟨2, [bfA 1 ⟨c, e⟩]⟩ := by rw [← hX1]; rfl
    have id1 : ∀ b ∈ i1 :: (js1 ++ pxI xl1), 3 ≤ b ∧ b < X1.length := fun b hb => ⟨(hd1 b hb).1, hx1.lt b hb⟩
    clear hX1 hd1 hv e1' N v
    have hc1 := hx1.x.cell
    have l1 := (List.getElem?_eq_some_iff.1 x12).1
    repeat' (first | with_reducible first | refine kI (by kernel_rfl) ?_ | (first | refine kB1 ?_ ?_ | refine kB2 ?_ ?_) <;> intro hp | (first | refine kD1 ?_ ?_ | refine kD2 ?_ ?_ | refine kS1 ?_ ?_ | refine kS2 ?_ ?_) <;> intro hp <;> try simp only [hp] | simp -implicitDefEqProofs (disch := omega) only [go_sem, Nat.reduceAdd, Nat.reduceSub, reduceCtorEq, Nat.reduceLT, Nat.reduceLeDiff, Nat.reduceEqDiff, Nat.reduceMul, Int.reduceToNat, ↓reduceIte, List.take_of_length_le, if_pos, if_neg, List.getElem?_set_self, List.set_set, getD_exs, cnE, cnV, Tryz.ntmps12, Tryz.results12,  hc1, fun Z => get_ext x10 Z, fun Z => get_ext x11 Z, fun Z => get_ext x12 Z, n2, opQ_none])
    refine InlK_intro rfl rfl can_toA (callF ha1 (by simp only [go_sem, ints]) ?_)
    rintro v N ⟨c0, rfl, hc0⟩
    obtain ⟨X2, hX2⟩ : ∃ X2, (X1 ++ [⟨2, [.agg [.sl i1 B.c.length 0 B.c.length B.c.length, be1]]⟩]) ++ N.map (ownB (X1 ++ [⟨2, [.agg [.sl i1 B.c.length 0 B.c.length B.c.length, be1]]⟩] : List Blk).length) = X2 := ⟨_, rfl⟩
    rw [hX2]
    obtain ⟨c3, hc3⟩ : ∃ c3, (X1 ++ [⟨2, [.agg [.sl i1 B.c.length 0 B.c.length B.c.length, be1]]⟩] : List Blk).length + c0 = c3 := ⟨_, rfl⟩
    have hov : ownV (X1 ++ [⟨2, [.agg [.sl i1 B.c.length 0 B.c.length B.c.length, be1]]⟩] : List Blk).length (.agg [i64 k, .sl c0 n.length 0 n.length n.length]) = .agg [i64 k, .sl c3 n.length 0 n.length n.length] := by rw [← hc3]; rfl
    rw [hov]
    have x2c : X2[c3]? = some (stB n) := by rw [← hX2, ← hc3]; exact get_frs hc0
    have up2 : ∀ (q : Nat) (K : Blk), X1[q]? = some K → X2[q]? = some K := fun q K h => by rw [← hX2]; exact get_ext (get_ext h _) _
    have x2p : X2[X1.length]? = some ⟨2, [.agg [.sl i1 B.c.length 0 B.c.length B.c.length, be1]]⟩ := by rw [← hX2]; exact get_ext (by simp) _
    have hc3l : X1.length + 1 ≤ c3 := by rw [← hc3]; simp
    have hx2 : HBx X2 i1 be1 js1 xl1 B := by rw [← hX2]; exact (hx1.ext _).ext _
    have l2 : X1.length + 1 ≤ X2.length := by have := (List.getElem?_eq_some_iff.1 x2c).1; omega
    clear hX2 hc3 hov hc0 N c0
    have y2p := fun Z : List Blk => get_ext x2p Z
    have hxa2 := hx2.ext [⟨2, [.agg [i64 k, .sl c3 n.length 0 n.length n.length]]⟩]
    have hxc2 := hxa2.c
    have hxe2 := hxa2.exp
    have y2c := fun Z : List Blk => get_ext x2c Z
    repeat' (first | with_reducible first | refine kI (by kernel_rfl) ?_ | (first | refine kB1 ?_ ?_ | refine kB2 ?_ ?_) <;> intro hp | (first | refine kD1 ?_ ?_ | refine kD2 ?_ ?_ | refine kS1 ?_ ?_ | refine kS2 ?_ ?_) <;> intro hp <;> try simp only [hp] | simp -implicitDefEqProofs (disch := omega) only [go_sem, Nat.reduceAdd, Nat.reduceSub, reduceCtorEq, Nat.reduceLT, Nat.reduceLeDiff, Nat.reduceEqDiff, Nat.reduceMul, Int.reduceToNat, ↓reduceIte, List.take_of_length_le, if_pos, if_neg, List.getElem?_set_self, List.set_set, getD_exs, cnE, cnV, Tryz.ntmps12, Tryz.results12,  y2p, n3, opQ_none])
    refine InlK_intro rfl rfl can_ApplyActI (callF hcall (by simp -implicitDefEqProofs (disch := omega) only [go_sem, ints, List.take_of_length_le, hxc2, hxe2, y2c]) ?_)
    intro v N hv
    obtain ⟨x, e3, i, be, js, xl, rfl, hxg, hdg⟩ := AO.frame (L := X2 ++ [⟨2, [.agg [i64 k, .sl c3 n.length 0 n.length n.length]]⟩]) hv
    rw [e3]
    dsimp only at hxg
    obtain ⟨X3, hX3⟩ : ∃ X3, (X2 ++ [⟨2, [.agg [i64 k, .sl c3 n.length 0 n.length n.length]]⟩]) ++ N.map (ownB (X2 ++ [⟨2, [.agg [i64 k, .sl c3 n.length 0 n.length n.length]]⟩] : List Blk).length) = X3 := ⟨_, rfl⟩
    rw [hX3] at hxg ⊢
    have up3 : ∀ (q : Nat) (K : Blk), X2[q]? = some K → X3[q]? = some K := fun q K h => by rw [← hX3]; exact get_ext (get_ext h _) _
    have x3q : X3[X2.length]? = some ⟨2, [.agg [i64 k, .sl c3 n.length 0 n.length n.length]]⟩ := by rw [← hX3]; exact get_ext (by simp) _
    have idg : ∀ b ∈ i :: (js ++ pxI xl), X2.length + 1 ≤ b ∧ b < X3.length := fun b hb => ⟨by have := (hdg b hb).1; simpa using this, hxg.lt b hb⟩
    have hx3 : HBx X3 i1 be1 js1 xl1 B := by rw [← hX3]; exact hxa2.ext _
    have l3 : X2.length + 1 ≤ X3.length := by have := (List.getElem?_eq_some_iff.1 x3q).1; omega
    clear hX3 hdg hv e3 N v hxa2 hxc2 hxe2 y2p y2c
    have hcg := hxg.x.cell
    have x30 := up3 _ _ (up2 _ _ x10)
    have x31 := up3 _ _ (up2 _ _ x11)
    have x32 := up3 _ _ (up2 _ _ x12)
    have x3p := up3 _ _ x2p
    have x3c := up3 _ _ x2c
    have c3l2 := (List.getElem?_eq_some_iff.1 x2c).1
    clear up3 up2 x10 x11 x12 x2p x2c hx1 hx2
    have qg := gEqB_eq (bfB_of hok) (bfB_of hok)
    rw [decide_eq_true rfl] at qg
    have hs1 := strEq_t s
    have htk : ∀ A : Blk, (X3 ++ [A]).take (X3.length + 1) = X3 ++ [A] := fun A => List.take_of_length_le (by simp)
    have hga := hxg.ext [⟨2, [.agg [.sl i c.length 0 c.length c.length, be]]⟩]
    have hgc := hga.c
    have hge := hga.exp
    dsimp only at hgc hge
    have h1a := hx3.ext [⟨2, [.agg [.sl i c.length 0 c.length c.length, be]]⟩]
    have h1c := h1a.c
    have h1e := h1a.exp
    have hc1 := h1a.x.cell
    have z0 := fun Z : List Blk => get_ext x30 Z
    have z1 := fun Z : List Blk => get_ext x31 Z
    have z2 := fun Z : List Blk => get_ext x32 Z
    have zp := fun Z : List Blk => get_ext x3p Z
    have zq := fun Z : List Blk => get_ext x3q Z
    have zc := fun Z : List Blk => get_ext x3c Z
    repeat' (first | with_reducible first | refine kI (by kernel_rfl) ?_ | refine kN (by kernel_rfl) ?_ | (first | refine kB1 ?_ ?_ | refine kB2 ?_ ?_) <;> intro hp | (first | refine kD1 ?_ ?_ | refine kD2 ?_ ?_ | refine kS1 ?_ ?_ | refine kS2 ?_ ?_) <;> intro hp <;> try simp only [hp] | simp -implicitDefEqProofs (disch := omega) only [go_sem, Nat.reduceAdd, Nat.reduceSub, reduceCtorEq, Nat.reduceLT, Nat.reduceLeDiff, Nat.reduceEqDiff, Nat.reduceMul, Int.reduceToNat, ↓reduceIte, List.take_of_length_le, if_pos, if_neg, List.getElem?_set_self, List.set_set, getD_exs, cnE, cnV, Tryz.ntmps12, Tryz.results12,  hcg, z2, htk, hgc, hge, he, qg, hs1, z0, z1, zp, zq, zc, h1c, h1e, d1, t1, d2, t2, e1, qb, e2, qa, n4, opQ_none])
    refine InlK_intro rfl rfl can_markB ((hm B 1 i1 be1 js1 xl1 _ h1a hM (by omega)).mono ?_)
    rintro r M1 ⟨rfl, -, m3, m4⟩
    rw [List.length_append, List.length_singleton] at m3 m4
    have kk : ∀ (q : Nat) (K : Blk), (q < 3 ∨ X1.length ≤ q) → (X3 ++ [(⟨2, [.agg [.sl i c.length 0 c.length c.length, be]]⟩ : Blk)])[q]? = some K → M1[q]? = some K := fun q K hq h => by
      have hl := (List.getElem?_eq_some_iff.1 h).1
      rw [List.length_append, List.length_singleton] at hl
      rw [m4 q hl fun hm => by have := id1 q hm; omega]; exact h
    have w2 := kk 2 _ (by omega) (z2 _)
    have wq := kk X2.length _ (by omega) (zq _)
    have wr := kk X3.length ⟨2, [.agg [.sl i c.length 0 c.length c.length, be]]⟩ (by omega) (by simp)
    have wc := kk c3 _ (by omega) (zc _)
    have w0 := kk 0 _ (by omega) (z0 _)
    have w1 := kk 1 _ (by omega) (z1 _)
    have c3l := (List.getElem?_eq_some_iff.1 x3c).1
    have hg1 : HBx M1 i be js xl ⟨c, e⟩ := hga.same fun b hb => by
      have h9 := hga.lt b hb
      rw [List.length_append, List.length_singleton] at h9
      exact m4 b h9 fun hm => by have := id1 b hm; have := idg b hb; omega
    have hnbl := nb_le hM
    have wn : IntKind.i64.wrap (nb 1 B) = nb 1 B := wrap_in (by omega)
    repeat' (first | with_reducible first | refine kI (by kernel_rfl) ?_ | refine kN (by kernel_rfl) ?_ | (first | refine kB1 ?_ ?_ | refine kB2 ?_ ?_) <;> intro hp | (first | refine kD1 ?_ ?_ | refine kD2 ?_ ?_ | refine kS1 ?_ ?_ | refine kS2 ?_ ?_) <;> intro hp <;> try simp only [hp] | simp -implicitDefEqProofs (disch := omega) only [go_sem, Nat.reduceAdd, Nat.reduceSub, reduceCtorEq, Nat.reduceLT, Nat.reduceLeDiff, Nat.reduceEqDiff, Nat.reduceMul, Int.reduceToNat, ↓reduceIte, List.take_of_length_le, if_pos, if_neg, List.getElem?_set_self, List.set_set, getD_exs, cnE, cnV, Tryz.ntmps12, Tryz.results12,  wq, n5, opQ_none])
    refine InlK_intro rfl rfl can_markA ((hma k n (nb 1 B) c3 M1 wc (by omega) (by omega)).mono ?_)
    rintro r L1 ⟨rfl, Y5, hL1⟩
    have kk2 : ∀ (q : Nat) (K : Blk), q ≠ c3 → M1[q]? = some K → L1[q]? = some K := fun q K hq h => by
      rw [hL1]; exact get_ext (by rw [List.getElem?_set_ne (Ne.symm hq)]; exact h) _
    have v2 := kk2 2 _ (by omega) w2
    have v0 := kk2 0 _ (by omega) w0
    have v1 := kk2 1 _ (by omega) w1
    have vr := kk2 X3.length _ (by omega) wr
    have hg2 : HBx L1 i be js xl ⟨c, e⟩ := hg1.same fun b hb => by
      have h9 := hg1.lt b hb
      rw [kk2 b M1[b] (by have := idg b hb; omega) (List.getElem?_eq_getElem h9), List.getElem?_eq_getElem h9]
    have hg2c := hg2.c
    have hg2e := hg2.exp
    dsimp only at hg2c hg2e
    have wk : ¬ (nb 1 B + (n.length : Int) < 0) := by omega
    repeat' (first | with_reducible first | refine kI (by kernel_rfl) ?_ | refine kN (by kernel_rfl) ?_ | (first | refine kB1 ?_ ?_ | refine kB2 ?_ ?_) <;> intro hp | (first | refine kD1 ?_ ?_ | refine kD2 ?_ ?_ | refine kS1 ?_ ?_ | refine kS2 ?_ ?_) <;> intro hp <;> try simp only [hp] | simp -implicitDefEqProofs (disch := omega) only [go_sem, Nat.reduceAdd, Nat.reduceSub, reduceCtorEq, Nat.reduceLT, Nat.reduceLeDiff, Nat.reduceEqDiff, Nat.reduceMul, Int.reduceToNat, ↓reduceIte, List.take_of_length_le, if_pos, if_neg, List.getElem?_set_self, List.set_set, getD_exs, cnE, cnV, Tryz.ntmps12, Tryz.results12,  vr, v2, wk, hg2c, hg2e, he, qg, hs1, n4, opQ_none])
    have hm1 := hm ⟨c, e⟩ 1 i be js xl L1 hg2 (bfM_of hok) (by omega)
    dsimp only at hm1
    refine InlK_intro rfl rfl can_markB (hm1.mono ?_)
    rintro r M3 ⟨rfl, u1, u2, u3⟩
    obtain ⟨qh, hk1⟩ := mkd_B hok 1 (by omega)
    have wk2 : ¬ (nb 1 ⟨c, e⟩ < 0) := by omega
    have hE : (mkB 1 ⟨c, e⟩).e = mkL me1 ne1 (1 + (c.length : Int)) e := rfl
    have kk3 : ∀ (q : Nat) (K : Blk), q < X2.length + 1 ∨ X3.length ≤ q → L1[q]? = some K → M3[q]? = some K := fun q K hq h => by
      rw [u3 q (List.getElem?_eq_some_iff.1 h).1 fun hm => by have := idg q hm; omega]; exact h
    have r2 := kk3 2 _ (by omega) v2
    have r0 := kk3 0 _ (by omega) v0
    have r1 := kk3 1 _ (by omega) v1
    have rr := kk3 X3.length _ (by omega) vr
    have m4 := u1.c
    have m5 := u1.exp
    rw [hE] at m5
    have m6 : (mkB 1 ⟨c, e⟩).c = mks 1 c.length := rfl
    rw [m6] at m4
    have hqB : mkB 1 ⟨c, e⟩ = ⟨mks 1 c.length, mkL me1 ne1 (1 + (c.length : Int)) e⟩ := rfl
    rw [hqB] at qh
    repeat' (first | with_reducible first | refine kI (by kernel_rfl) ?_ | (first | refine kB1 ?_ ?_ | refine kB2 ?_ ?_) <;> intro hp | (first | refine kD1 ?_ ?_ | refine kD2 ?_ ?_ | refine kS1 ?_ ?_ | refine kS2 ?_ ?_) <;> intro hp <;> try simp only [hp] | simp -implicitDefEqProofs (disch := omega) only [go_sem, Nat.reduceAdd, Nat.reduceSub, reduceCtorEq, Nat.reduceLT, Nat.reduceLeDiff, Nat.reduceEqDiff, Nat.reduceMul, Int.reduceToNat, ↓reduceIte, List.take_of_length_le, if_pos, if_neg, List.getElem?_set_self, List.set_set, getD_exs, cnE, cnV, Tryz.ntmps12, Tryz.results12,  rr, r2, m4, m5, mks_len, mks_take, hh, qh, wk2])
    refine DrawQ.any [([0, 1, 2, 3, 4, 5, 6, 7, 8], 9)] [10] [7] (by kernel_rfl) ?_
    have g4 := fun Z : List Blk => get_ext m4 Z
    have g5 := fun Z : List Blk => (u1.ext Z).exp
    rw [hE] at g5
    have htk3 : ∀ A : Blk, (M3 ++ [A]).take (M3.length + 1) = M3 ++ [A] := fun A => List.take_of_length_le (by simp)
    repeat' (first | with_reducible first | refine kI (by kernel_rfl) ?_ | (first | refine kB1 ?_ ?_ | refine kB2 ?_ ?_) <;> intro hp | (first | refine kD1 ?_ ?_ | refine kD2 ?_ ?_ | refine kS1 ?_ ?_ | refine kS2 ?_ ?_) <;> intro hp <;> try simp only [hp] | simp -implicitDefEqProofs (disch := omega) only [go_sem, Nat.reduceAdd, Nat.reduceSub, reduceCtorEq, Nat.reduceLT, Nat.reduceLeDiff, Nat.reduceEqDiff, Nat.reduceMul, Int.reduceToNat, ↓reduceIte, List.take_of_length_le, if_pos, if_neg, List.getElem?_set_self, List.set_set, getD_exs, cnE, cnV, Tryz.ntmps12, Tryz.results12,  htk3, r0, r1, d1, t1, d2, t2, d4, t3, fun Z => get_ext r2 Z, fun Z => get_ext rr Z, g4, g5, he, qg, hs1, mks_len, mks_take, hh, qh, wk2])
end Go.Proofs.YtkmnepmnjpdpkaaGreatDoor
