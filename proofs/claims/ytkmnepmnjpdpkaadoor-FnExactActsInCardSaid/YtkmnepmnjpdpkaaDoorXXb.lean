/- Contracts of functions that the laws of this seat call. -/
import Derived.Test.YtkmnepmnjpdpkaaDoorXXa
set_option linter.all false
namespace Go.Proofs.YtkmnepmnjpdpkaaDoor
open Go Go.Ev Go.RowKit Go.Ev.Enc Go.Pl

abbrev acE (t : Ac × Nat) : AV := .agg [.int .i64 t.1.k, .sl t.2 t.1.n.length 0 t.1.n.length t.1.n.length]
def alH (M : List Blk) (xl : List (Ac × Nat)) : Prop := ∀ t ∈ xl, M[t.2]? = some (stB t.1.n)
def alK (lo : Nat) (M : List Blk) (l : List Ac) (v : AV) : Prop := ∃ j xl, xl.map Prod.fst = l ∧ v = .sl j l.length 0 l.length l.length ∧ M[j]? = some ⟨2, xl.map acE⟩ ∧ alH M xl ∧ (j :: xl.map Prod.snd).Nodup ∧ ∀ b ∈ j :: xl.map Prod.snd, lo ≤ b

theorem alK_frame {N L : List Blk} {l : List Ac} {v : AV} (h : alK 0 N l v) : alK L.length (L ++ N.map (ownB L.length)) l (ownV L.length v) := by
  obtain ⟨j, xl, h1, rfl, h3, h4, h5, h6⟩ := h
  have hs : (L.length + j) :: (xl.map fun t => (t.1, L.length + t.2)).map Prod.snd = (j :: xl.map Prod.snd).map (L.length + ·) := by simp [Function.comp_def]
  refine ⟨L.length + j, xl.map fun t => (t.1, L.length + t.2), by rw [List.map_map]; exact h1, rfl, ?_, fun t ht => ?_, ?_, fun b hb => ?_⟩
  · rw [get_fr h3]; unfold ownB; rw [List.map_map, List.map_map]; rfl
  · obtain ⟨u, hu, rfl⟩ := List.mem_map.1 ht
    exact get_frs (h4 u hu)
  · rw [hs]; exact nod_add _ h5
  · rw [hs] at hb
    obtain ⟨q, -, rfl⟩ := List.mem_map.1 hb
    omega
theorem alH_ext {M : List Blk} {xl : List (Ac × Nat)} (h : alH M xl) (Y : List Blk) : alH (M ++ Y) xl := fun t ht => get_ext (h t ht) Y
theorem alH_hd {B B' : Blk} {Z : List Blk} {xl : List (Ac × Nat)} (hn : (0 :: xl.map Prod.snd).Nodup) (h : alH (B :: Z) xl) : alH (B' :: Z) xl := fun t ht => by
  have h0 : t.2 ≠ 0 := fun e => (List.nodup_cons.1 hn).1 (e ▸ List.mem_map_of_mem ht)
  have := h t ht
  obtain ⟨c, hc⟩ : ∃ c, t.2 = c + 1 := ⟨t.2 - 1, by omega⟩
  rw [hc, List.getElem?_cons_succ] at this ⊢
  exact this
theorem alH_snoc {M : List Blk} {xl : List (Ac × Nat)} {t : Ac × Nat} (h : alH M xl) (ht : M[t.2]? = some (stB t.1.n)) : alH M (xl ++ [t]) := fun u hu => by
  rcases List.mem_append.1 hu with hu | hu
  · exact h u hu
  · rw [List.mem_singleton.1 hu]; exact ht
theorem nod_snoc {M : List Blk} {xl : List (Ac × Nat)} {t : Ac × Nat} (hn : (0 :: xl.map Prod.snd).Nodup) (h : alH M xl) (ht : M.length ≤ t.2) (hM : 0 < M.length) : (0 :: (xl ++ [t]).map Prod.snd).Nodup := by
  rw [List.map_append, ← List.cons_append]
  refine List.nodup_append.2 ⟨hn, by simp, fun a ha b hb => ?_⟩
  obtain rfl : b = t.2 := by simpa using hb
  rcases List.mem_cons.1 ha with rfl | ha
  · omega
  · obtain ⟨u, hu, rfl⟩ := List.mem_map.1 ha
    have := (List.getElem?_eq_some_iff.1 (h u hu)).1
    omega
theorem evApp_aX {L : List Blk} {n b : Nat} {xl : List (Ac × Nat)} {k : Int} {l : List Int} (hn : xl.length = n) (h1 : (n + 1) * 32 ≤ 140737488355328) (h2 : n + 1 ≤ 9223372036854775807) :
    evApp (⟨2, xl.map acE⟩ :: L) (.sl 0 n 0 n n) [.agg [.int .i64 k, .sl b l.length 0 l.length l.length]] 2 32 = some (.sl 0 (n + 1) 0 (n + 1) (n + 1), ⟨2, (xl ++ [((⟨k, l⟩ : Ac), b)]).map acE⟩ :: L) := by
  rw [evApp_gen (b := 0) (q := xl.map acE) (new := [.agg [.int .i64 k, .sl b l.length 0 l.length l.length]]) rfl (by rw [List.length_map]; exact hn) h1 h2, List.map_append]; rfl
theorem par_pos {s : List UInt8} {a : Ac} (h : parL s = some a) : a.n ≠ [] := by
  have h1 := (parL_iff.1 h).1.1.2
  intro e
  rw [e] at h1
  have h2 : 1 ≤ nedF a.k := by
    unfold nedF
    split
    · omega
    · split
      · omega
      · split <;> omega
  simp at h1
  omega
set_option maxHeartbeats 4000000 in
set_option maxRecDepth 100000 in
theorem isp_actsInX {Sg : FuncId → Option (List AV → Option AV)} (hS : Sound Tryd.prog Sg) (hc : Sg 31 = some (F2 gCut)) (n1 : Sg 16 = none) (s : ByteArray) (h : s.size < 4294967281) (hp : ParX) : ISpec Tryd.prog 21 [.str s] [] (fun v L' => alK 0 L' (actsF 60 s.data.toList) v) := by
  refine ISpec.intro Tryd.func21 rfl (vc3_sound Tryd.pf hS hS _ _ _ ?_)
  have hz := sz_data s
  obtain ⟨R, hR⟩ : ∃ R, actsF 60 s.data.toList = R := ⟨_, rfl⟩
  rw [hR]
  repeat' (first | with_reducible first | refine kI (by kernel_rfl) ?_ | (first | refine kB1 ?_ ?_ | refine kB2 ?_ ?_) <;> intro hp | (first | refine kD1 ?_ ?_ | refine kD2 ?_ ?_ | refine kS1 ?_ ?_ | refine kS2 ?_ ?_) <;> intro hp <;> try simp only [hp] | simp -implicitDefEqProofs (disch := omega) only [go_sem, Nat.reduceAdd, Nat.reduceSub, reduceCtorEq, Nat.reduceLT, Nat.reduceLeDiff, Nat.reduceEqDiff, Nat.reduceMul, Int.reduceToNat, ↓reduceIte, List.take_of_length_le, if_pos, if_neg, List.getElem?_set_self, List.set_set, getD_exs, evApp_st0, cnE, cnV, Tryd.ntmps21, Tryd.results21])
  refine LoopQ.mix (fun t0 L0 nn ss => ∃ (n : Nat) (z : ByteArray) (xl : List (Ac × Nat)) (Z : List Blk) (_ : Unit), (∃ x : Nat → AV, ss = ⟨mixL 0 (.v (.str z) :: .k :: .k :: .v (.sl 0 n 0 n n) :: .s :: .s :: .s :: .s :: .s :: .k :: .s :: .s :: .s :: .s :: .s :: .s :: .s :: .s :: .s :: .s :: .s :: .s :: .s :: .s :: .s :: .s :: .s :: .s :: .s :: .s :: .s :: .s :: .s :: .k :: []) t0 x, ⟨2, xl.map acE⟩ :: Z⟩) ∧ (n ≤ 60) ∧ (xl.length = n) ∧ (z.size ≤ s.size) ∧ (R = xl.map Prod.fst ++ actsF (60 - n) z.data.toList) ∧ (alH (⟨2, xl.map acE⟩ :: Z) xl) ∧ ((0 :: xl.map Prod.snd).Nodup) ∧ nn = 60 - n) ?_ ?_
  · exact ⟨_, ⟨0, s, [], [], (), mixI rfl, Nat.zero_le _, rfl, Nat.le_refl _, hR.symm, (fun t ht => by cases ht), (by simp), rfl⟩⟩
  · rintro I0 hI0 nn ss ⟨n, z, xl, Z, _, ⟨y, rfl⟩, g1, g2, g3, g4, g5, g6, rfl⟩
    have hlen : (xl.map Prod.fst).length = n := by rw [List.length_map]; exact g2
    have fin : ∀ Y : List Blk, R = xl.map Prod.fst → alK 0 (⟨2, xl.map acE⟩ :: (Z ++ Y)) R (.sl 0 n 0 n n) := fun Y h => ⟨0, xl, h.symm, by rw [h, hlen], rfl, alH_ext g5 Y, g6, fun _ _ => Nat.zero_le _⟩
    have fin0 : R = xl.map Prod.fst → alK 0 (⟨2, xl.map acE⟩ :: Z) R (.sl 0 n 0 n n) := fun h => ⟨0, xl, h.symm, by rw [h, hlen], rfl, g5, g6, fun _ _ => Nat.zero_le _⟩
    by_cases hn : n < 60
    · have hni : (n : Int) < 60 := by omega
      have q1 := gCut_eq (s := z) (c := cNl) (by omega)
      have hcd : cNl.data.toList = [10] := rfl
      unfold cutB3 at q1
      rw [hcd] at q1
      obtain ⟨m, hm⟩ : ∃ m, 60 - n = m + 1 := ⟨60 - n - 1, by omega⟩
      rw [hm, actsF_step] at g4
      have hcs := cut_size z.data.toList
      have hzz := sz_data z
      have hms : m = 60 - (n + 1) := by omega
      generalize Lib.cut z.data.toList [10] = C at *
      obtain ⟨c1, c2, c3⟩ := C
      dsimp only at g4 q1 hcs
      cases c3 with
      | false =>
        rw [if_neg (by simp), List.append_nil] at g4
        repeat' (first | with_reducible first | refine kI (by kernel_rfl) ?_ | refine kN (by kernel_rfl) ?_ | (first | refine kB1 ?_ ?_ | refine kB2 ?_ ?_) <;> intro hp | (first | refine kD1 ?_ ?_ | refine kD2 ?_ ?_ | refine kS1 ?_ ?_ | refine kS2 ?_ ?_) <;> intro hp <;> try simp only [hp] | simp -implicitDefEqProofs (disch := omega) only [go_sem, Nat.reduceAdd, Nat.reduceSub, reduceCtorEq, Nat.reduceLT, Nat.reduceLeDiff, Nat.reduceEqDiff, Nat.reduceMul, Int.reduceToNat, ↓reduceIte, List.take_of_length_le, if_pos, if_neg, List.getElem?_set_self, List.set_set, getD_exs, evApp_st0, cnE, cnV, Tryd.ntmps21, Tryd.results21,  hni, hc, q1, ex01])
        exact fin0 g4
      | true =>
        rw [if_pos rfl] at g4
        have hpc := hp (bs c1) (by rw [bs_size]; omega)
        rw [data_bs] at hpc
        have hsz2 : (bs c2).size ≤ s.size := by rw [bs_size]; omega
        rcases par_cases c1 with ⟨a, e1, e2⟩ | ⟨e1, e2⟩
        · rw [e1] at g4
          rw [e2] at hpc
          have hpn := par_num e1
          have hpp := par_pos e1
          obtain ⟨k, l⟩ := a
          dsimp only at g4 hpn hpp
          have g4' : R = (xl ++ [((⟨k, l⟩ : Ac), 0)]).map Prod.fst ++ actsF (60 - (n + 1)) (bs c2).data.toList := by rw [g4, data_bs, ← hms]; simp
          generalize bs c1 = Z1 at *
          generalize bs c2 = Z2 at *
          repeat' (first | with_reducible first | refine kI (by kernel_rfl) ?_ | (first | refine kB1 ?_ ?_ | refine kB2 ?_ ?_) <;> intro hp | (first | refine kD1 ?_ ?_ | refine kD2 ?_ ?_ | refine kS1 ?_ ?_ | refine kS2 ?_ ?_) <;> intro hp <;> try simp only [hp] | simp -implicitDefEqProofs (disch := omega) only [go_sem, Nat.reduceAdd, Nat.reduceSub, reduceCtorEq, Nat.reduceLT, Nat.reduceLeDiff, Nat.reduceEqDiff, Nat.reduceMul, Int.reduceToNat, ↓reduceIte, List.take_of_length_le, if_pos, if_neg, List.getElem?_set_self, List.set_set, getD_exs, evApp_st0, cnE, cnV, Tryd.ntmps21, Tryd.results21,  hni, hc, q1, n1, opQ_none])
          refine InlK_intro rfl rfl can_parseActI (callF hpc (by simp only [go_sem]) ?_)
          intro v N hv
          obtain ⟨x, e, hx⟩ := acK_frame (L := ⟨2, xl.map acE⟩ :: Z) hv
          rw [e]
          generalize N.map (ownB (⟨2, xl.map acE⟩ :: Z : List Blk).length) = Y at *
          rcases hx with ⟨-, h0⟩ | ⟨b, rfl, hb, hlo⟩
          · exact absurd h0 hpp
          dsimp only at hb
          have ea := fun (L : List Blk) => evApp_aX (L := L) (b := b) (k := k) (l := l) g2 (by omega) (by omega)
          repeat' (first | with_reducible first | refine kI (by kernel_rfl) ?_ | refine kN (by kernel_rfl) ?_ | (first | refine kB1 ?_ ?_ | refine kB2 ?_ ?_) <;> intro hp | (first | refine kD1 ?_ ?_ | refine kD2 ?_ ?_ | refine kS1 ?_ ?_ | refine kS2 ?_ ?_) <;> intro hp <;> try simp only [hp] | simp -implicitDefEqProofs (disch := omega) only [go_sem, Nat.reduceAdd, Nat.reduceSub, reduceCtorEq, Nat.reduceLT, Nat.reduceLeDiff, Nat.reduceEqDiff, Nat.reduceMul, Int.reduceToNat, ↓reduceIte, List.take_of_length_le, if_pos, if_neg, List.getElem?_set_self, List.set_set, getD_exs, evApp_st0, cnE, cnV, Tryd.ntmps21, Tryd.results21,  ea])
          refine ⟨60 - (n + 1), by omega, hI0 _ _ ⟨n + 1, Z2, xl ++ [((⟨k, l⟩ : Ac), b)], _, (), mixJ rfl rfl, by omega, by rw [List.length_append, g2]; rfl, hsz2, ?_, ?_, ?_, rfl⟩⟩
          · rw [g4', List.map_append, List.map_append]; rfl
          · have h1 := alH_ext (alH_snoc (alH_ext g5 Y) (t := ((⟨k, l⟩ : Ac), b)) hb) [(⟨2, [.agg [i64 k, .sl b l.length 0 l.length l.length]]⟩ : Blk)]
            rw [List.cons_append, List.cons_append, List.append_assoc] at h1
            exact alH_hd (B := ⟨2, xl.map acE⟩) (nod_snoc g6 g5 hlo (by simp)) h1
          · exact nod_snoc g6 g5 hlo (by simp)
        · rw [e1] at g4
          rw [e2] at hpc
          dsimp only at g4
          rw [List.append_nil] at g4
          generalize bs c1 = Z1 at *
          generalize bs c2 = Z2 at *
          repeat' (first | with_reducible first | refine kI (by kernel_rfl) ?_ | (first | refine kB1 ?_ ?_ | refine kB2 ?_ ?_) <;> intro hp | (first | refine kD1 ?_ ?_ | refine kD2 ?_ ?_ | refine kS1 ?_ ?_ | refine kS2 ?_ ?_) <;> intro hp <;> try simp only [hp] | simp -implicitDefEqProofs (disch := omega) only [go_sem, Nat.reduceAdd, Nat.reduceSub, reduceCtorEq, Nat.reduceLT, Nat.reduceLeDiff, Nat.reduceEqDiff, Nat.reduceMul, Int.reduceToNat, ↓reduceIte, List.take_of_length_le, if_pos, if_neg, List.getElem?_set_self, List.set_set, getD_exs, evApp_st0, cnE, cnV, Tryd.ntmps21, Tryd.results21,  hni, hc, q1, n1, opQ_none])
          refine InlK_intro rfl rfl can_parseActI (callF hpc (by simp only [go_sem]) ?_)
          intro v N hv
          obtain ⟨x, e, hx⟩ := acK_frame (L := ⟨2, xl.map acE⟩ :: Z) hv
          rw [e]
          generalize N.map (ownB (⟨2, xl.map acE⟩ :: Z : List Blk).length) = Y at *
          rcases hx with ⟨rfl, h0⟩ | ⟨b, rfl, hb, hlo⟩
          · repeat' (first | with_reducible first | refine kI (by kernel_rfl) ?_ | refine kN (by kernel_rfl) ?_ | (first | refine kB1 ?_ ?_ | refine kB2 ?_ ?_) <;> intro hp | (first | refine kD1 ?_ ?_ | refine kD2 ?_ ?_ | refine kS1 ?_ ?_ | refine kS2 ?_ ?_) <;> intro hp <;> try simp only [hp] | simp -implicitDefEqProofs (disch := omega) only [go_sem, Nat.reduceAdd, Nat.reduceSub, reduceCtorEq, Nat.reduceLT, Nat.reduceLeDiff, Nat.reduceEqDiff, Nat.reduceMul, Int.reduceToNat, ↓reduceIte, List.take_of_length_le, if_pos, if_neg, List.getElem?_set_self, List.set_set, getD_exs, evApp_st0, cnE, cnV, Tryd.ntmps21, Tryd.results21,  ex01])
            exact fin _ g4
          · repeat' (first | with_reducible first | refine kI (by kernel_rfl) ?_ | refine kN (by kernel_rfl) ?_ | (first | refine kB1 ?_ ?_ | refine kB2 ?_ ?_) <;> intro hp | (first | refine kD1 ?_ ?_ | refine kD2 ?_ ?_ | refine kS1 ?_ ?_ | refine kS2 ?_ ?_) <;> intro hp <;> try simp only [hp] | simp -implicitDefEqProofs (disch := omega) only [go_sem, Nat.reduceAdd, Nat.reduceSub, reduceCtorEq, Nat.reduceLT, Nat.reduceLeDiff, Nat.reduceEqDiff, Nat.reduceMul, Int.reduceToNat, ↓reduceIte, List.take_of_length_le, if_pos, if_neg, List.getElem?_set_self, List.set_set, getD_exs, evApp_st0, cnE, cnV, Tryd.ntmps21, Tryd.results21,  ex01])
            exact fin _ g4
    · obtain rfl : n = 60 := by omega
      rw [Nat.sub_self, actsF, List.append_nil] at g4
      repeat' (first | with_reducible first | refine kI (by kernel_rfl) ?_ | refine kN (by kernel_rfl) ?_ | (first | refine kB1 ?_ ?_ | refine kB2 ?_ ?_) <;> intro hp | (first | refine kD1 ?_ ?_ | refine kD2 ?_ ?_ | refine kS1 ?_ ?_ | refine kS2 ?_ ?_) <;> intro hp <;> try simp only [hp] | simp -implicitDefEqProofs (disch := omega) only [go_sem, Nat.reduceAdd, Nat.reduceSub, reduceCtorEq, Nat.reduceLT, Nat.reduceLeDiff, Nat.reduceEqDiff, Nat.reduceMul, Int.reduceToNat, ↓reduceIte, List.take_of_length_le, if_pos, if_neg, List.getElem?_set_self, List.set_set, getD_exs, evApp_st0, cnE, cnV, Tryd.ntmps21, Tryd.results21])
      exact fin0 g4
theorem can_actsInI : CanCall Tryd.prog 21 := ⟨_, Tryd.func21, rfl, rfl⟩
def ActX : Prop := ∀ s : ByteArray, s.size < 4294967281 → ISpec Tryd.prog 21 [.str s] [] fun v L' => alK 0 L' (actsF 60 s.data.toList) v
def ActXX : Prop := ∀ s : ByteArray, s.size < 4294967281 → ISpec Tryd.prog 11 [.str s] [] fun v L' => alK 0 L' (actsF 60 s.data.toList) v
set_option maxHeartbeats 4000000 in
set_option maxRecDepth 100000 in
theorem isp_ActsInX {Sg : FuncId → Option (List AV → Option AV)} (hS : Sound Tryd.prog Sg) (n1 : Sg 21 = none) (s : ByteArray) (h : s.size < 4294967281) (hp : ActX) : ISpec Tryd.prog 11 [.str s] [] (fun v L' => alK 0 L' (actsF 60 s.data.toList) v) := by
  refine ISpec.intro Tryd.func11 rfl (vc3_sound Tryd.pf hS hS _ _ _ ?_)
  repeat' (first | with_reducible first | refine kI (by kernel_rfl) ?_ | (first | refine kB1 ?_ ?_ | refine kB2 ?_ ?_) <;> intro hp | (first | refine kD1 ?_ ?_ | refine kD2 ?_ ?_ | refine kS1 ?_ ?_ | refine kS2 ?_ ?_) <;> intro hp <;> try simp only [hp] | simp -implicitDefEqProofs (disch := omega) only [go_sem, Nat.reduceAdd, Nat.reduceSub, reduceCtorEq, Nat.reduceLT, Nat.reduceLeDiff, Nat.reduceEqDiff, Nat.reduceMul, Int.reduceToNat, ↓reduceIte, List.take_of_length_le, if_pos, if_neg, List.getElem?_set_self, List.set_set, getD_exs, evApp_st0, cnE, cnV, Tryd.ntmps11, Tryd.results11,  n1, opQ_none])
  refine InlK_intro rfl rfl can_actsInI (callF (hp s h) (by simp only [go_sem]) ?_)
  intro v N hv
  have hx := alK_frame (L := []) hv
  generalize actsF 60 s.data.toList = l at *
  obtain ⟨j, xl, h1, e, hr⟩ := hx
  rw [e]
  repeat' (first | with_reducible first | refine kI (by kernel_rfl) ?_ | (first | refine kB1 ?_ ?_ | refine kB2 ?_ ?_) <;> intro hp | (first | refine kD1 ?_ ?_ | refine kD2 ?_ ?_ | refine kS1 ?_ ?_ | refine kS2 ?_ ?_) <;> intro hp <;> try simp only [hp] | simp -implicitDefEqProofs (disch := omega) only [go_sem, Nat.reduceAdd, Nat.reduceSub, reduceCtorEq, Nat.reduceLT, Nat.reduceLeDiff, Nat.reduceEqDiff, Nat.reduceMul, Int.reduceToNat, ↓reduceIte, List.take_of_length_le, if_pos, if_neg, List.getElem?_set_self, List.set_set, getD_exs, evApp_st0, cnE, cnV, Tryd.ntmps11, Tryd.results11])
  exact ⟨j, xl, h1, rfl, hr⟩
end Go.Proofs.YtkmnepmnjpdpkaaDoor
