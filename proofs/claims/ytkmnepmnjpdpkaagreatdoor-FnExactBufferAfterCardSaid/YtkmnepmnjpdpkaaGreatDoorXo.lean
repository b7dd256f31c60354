/- Contracts of functions that the laws of this seat call. -/
import Derived.Test.YtkmnepmnjpdpkaaGreatDoorXn
set_option linter.all false
namespace Go.Proofs.YtkmnepmnjpdpkaaGreatDoor
open Go Go.Ev Go.RowKit Go.Ev.Enc Go.Pl

theorem spl_len (c : UInt8) : ∀ (n : Nat) (s : List UInt8), s.length ≤ n → (spl c s).length ≤ s.length + 1
  | 0, s, h => by
    have : s = [] := List.eq_nil_of_length_eq_zero (by omega)
    subst this
    rw [spl_miss c [] (by simp)]; simp
  | n + 1, s, h => by
    rcases spl_or c s with hm | ⟨w, t, rfl, hw⟩
    · rw [spl_miss c s hm]; simp
    · rw [spl_hit c w t hw]
      have := spl_len c n t (by simp at h; omega)
      simp
      omega
theorem par_rd_none {S w : List UInt8} {r : List (List UInt8)} (h : spl 32 S = w :: r) (hn : rdInts r = none) : parR S = (⟨0, []⟩, false) := by
  have : parL S = none := by
    unfold parL
    rw [h]
    dsimp only
    cases hw : wInts r with
    | none => rfl
    | some l =>
      rw [Option.bind_some]
      split
      · rename_i ha
        have hv := (actB_iff.1 ha).2
        rw [rdInts_small hw (fun x hx => by have := hv x hx; omega)] at hn
        cases hn
      · rfl
  unfold parR; rw [this]
theorem par_w_none {S w : List UInt8} {r : List (List UInt8)} (h : spl 32 S = w :: r) (hn : wInts r = none) : parR S = (⟨0, []⟩, false) := by
  unfold parR parL
  rw [h]
  dsimp only
  rw [hn]; rfl
theorem par_w_some {S w : List UInt8} {r : List (List UInt8)} {l : List Int} (h : spl 32 S = w :: r) (hs : wInts r = some l) : parR S = if actB ⟨nmI w, l⟩ = true then (⟨nmI w, l⟩, true) else (⟨0, []⟩, false) := by
  unfold parR parL
  rw [h]
  dsimp only
  rw [hs, Option.bind_some]
  by_cases ha : actB ⟨nmI w, l⟩ = true
  · rw [if_pos ha, if_pos ha]
  · rw [if_neg ha, if_neg ha]
theorem take_sn0 {r : List (List UInt8)} {i : Nat} (h : i < r.length) : r.take (i + 1) = r.take i ++ [r.getD i []] := by
  rw [List.take_succ_eq_append_getElem h]; simp [h]
def nuR (b : Nat) : Nat → AV
  | 0 => .nilS
  | n + 1 => .sl b (n + 1) 0 (n + 1) (n + 1)
def nuN : Nat → List Int → List Blk
  | 0, _ => []
  | _ + 1, l => [stB l]
theorem nuR_0 (b : Nat) : nuR b 0 = .nilS := rfl
theorem nuR_s (b n : Nat) : nuR b (n + 1) = .sl b (n + 1) 0 (n + 1) (n + 1) := rfl
theorem nuN_0 (l : List Int) : nuN 0 l = [] := rfl
theorem nuN_s (n : Nat) (l : List Int) : nuN (n + 1) l = [stB l] := rfl
theorem isCell_nuR (b n : Nat) : (nuR b n).isCell = true := by cases n <;> rfl
theorem cellsOk_nuR (b n : Nat) : cellsOk (nuR b n) = true := by cases n <;> rfl
theorem cells_nuR (b n : Nat) : (nuR b n).cells = [nuR b n] := by cases n <;> rfl
theorem elem_nuR (b n : Nat) : (nuR b n).isElem = true := by cases n <;> rfl
attribute [go_sem] isCell_nuR cellsOk_nuR cells_nuR elem_nuR
theorem rd_fail {r : List (List UInt8)} {i : Nat} {l : List Int} (hi : i < r.length) (h : rdInts (r.take i) = some l) (hb : (rdF (r.getD i [])).2 = false) : rdInts r = none := by
  have e := List.take_append_drop (i + 1) r
  rw [← e]
  apply rdInts_none
  rw [take_sn0 hi, rdInts_snoc, h, Option.bind_some, hb]
  rfl
theorem rd_next {r : List (List UInt8)} {i : Nat} {l : List Int} (hi : i < r.length) (h : rdInts (r.take i) = some l) (hb : (rdF (r.getD i [])).2 = true) : rdInts (r.take (i + 1)) = some (l ++ [(rdF (r.getD i [])).1]) := by
  rw [take_sn0 hi, rdInts_snoc, h, Option.bind_some, hb]
  rfl
theorem dec_ac0 (k : Int) : (dec (.agg [.int .i64 k, .ds 0 []]) : Option Ac) = some ⟨k, []⟩ := (ok _ _).2 rfl
attribute [go_sem] dec_ac0
def gPar (s : ByteArray) : Option (Ac × Bool) := gd (s.size < 4294967281) (parR s.data.toList)
theorem gPar_eq {s : ByteArray} (h : s.size < 4294967281) : gPar s = some (parR s.data.toList) := gd_eq h
theorem words_ex (s : ByteArray) : ∃ w r, spl 32 s.data.toList = w :: r ∧ (∀ x ∈ w :: r, x.length ≤ s.size) ∧ r.length ≤ s.size := by
  obtain ⟨w, r, h⟩ := List.exists_cons_of_ne_nil (spl_ne 32 s.data.toList)
  have hj := spl_join 32 _ _ (Nat.le_refl _) _ _ h
  have hl := spl_len 32 _ s.data.toList (Nat.le_refl _)
  have hz := sz_data s
  rw [h] at hl
  refine ⟨w, r, h, ?_, by simp at hl; omega⟩
  intro x hx
  rw [← hz, hj]
  rcases List.mem_cons.1 hx with rfl | hx
  · simp
  · obtain ⟨a, b, rfl⟩ := List.append_of_mem hx
    simp
    omega
theorem nm_cmp (k : Nat) (w : List UInt8) : ((bs (nmL.getD k [])).toList == (bs w).toList) = decide (nmL.getD k [] = w) := by
  rw [strEq]
  congr 1
  exact propext ⟨bs_inj, fun h => by rw [h]⟩
theorem getD_wds {l : List (List UInt8)} {k : Nat} (h : k < l.length) : (stL (l.map bs)).getD k .any = .str (bs (l.getD k [])) := by simp [h]
set_option maxHeartbeats 4000000 in
set_option maxRecDepth 100000 in
theorem spec_parseActS {Sg : FuncId → Option (List AV → Option AV)} (hS : Sound Tryz.prog Sg) (hs : Sg 101 = some (F2 gSpl)) (hw : Sg 71 = some (F0 gWords)) (hr : Sg 124 = some (F1 gRd)) (hv : Sg 67 = some (F1 gActB)) : ∀ a r, F1 gPar a = some r → CSpec Tryz.prog 78 a r := by
  refine F1_spec ?_
  intro s r0 hr0
  obtain ⟨h, rfl⟩ := gd_some hr0
  obtain ⟨w, r, hsp, hsz, hrl⟩ := words_ex s
  refine CSpec.intro Tryz.func78 rfl (own _) (vc3_sound Tryz.pf hS hS _ _ _ ?_)
  have q1 := gSpl_eq 32 h
  rw [hsp] at q1
  have qw : gWords = some nmB := rfl
  have hwl : (List.map bs (w :: r)).length = r.length + 1 := by simp
  have hw0 := getD_wds (l := w :: r) (k := 0) (by simp)
  have hget := fun i (hi : i < r.length) => getD_wds (l := w :: r) (k := i + 1) (by simp; omega)
  simp only [List.getD_cons_zero, List.getD_cons_succ] at hw0 hget
  generalize List.map bs (w :: r) = Ws at *
  repeat' (first | with_reducible first | refine kI (by kernel_rfl) ?_ | refine kN (by kernel_rfl) ?_ | simp -implicitDefEqProofs (disch := omega) only [go_sem, Nat.reduceAdd, Nat.reduceSub, reduceCtorEq, Nat.reduceLT, Nat.reduceLeDiff, Nat.reduceEqDiff, Nat.reduceMul, Int.reduceToNat, ↓reduceIte, List.take_of_length_le, if_pos, if_neg, getD_exs, evApp_st0, cnE, cnV, Tryz.ntmps78, Tryz.results78,  hs, q1, hw, qw])
  refine LoopQ.mix (fun t0 L0 nn ss => ∃ (k : Nat) (K : Int) (_ : Unit), (∃ x : Nat → AV, ss = ⟨mixL 0 (.k :: .k :: .k :: .k :: .k :: .k :: .k :: .v (i64 (k : Nat)) :: .k :: .k :: .k :: .k :: .k :: .k :: .k :: .s :: .s :: .s :: .s :: .s :: .s :: .s :: .s :: .s :: .s :: .s :: .s :: .s :: .s :: .s :: .s :: .k :: .k :: .k :: .k :: .k :: .k :: .k :: .k :: .k :: .k :: .k :: .k :: .k :: .k :: .k :: .k :: .k :: .k :: .k :: .k :: .k :: .k :: .k :: .k :: .k :: .k :: .k :: .k :: []) t0 x, [⟨2, [.agg [i64 0, .nilS]]⟩, ⟨2, [.agg [i64 K, .nilS]]⟩]⟩) ∧ (k ≤ 8) ∧ (K = nmK w k) ∧ nn = 8 - k) ?_ ?_
  · exact ⟨_, ⟨0, -1, (), mixI rfl, Nat.zero_le _, rfl, rfl⟩⟩
  · rintro I0 hI0 nn ss ⟨k, K, _, ⟨y, rfl⟩, g1, gK, rfl⟩
    by_cases hk : k < 8
    · have hki : (k : Int) < 8 := by omega
      have hkl : k < nmB.length := hk
      have hnm := getD_strs hkl
      rw [nmB_get hk] at hnm
      have hcm := nm_cmp k w
      have hst : nmK w (k + 1) = if nmL.getD k [] = w then (k : Int) else nmK w k := rfl
      by_cases hc : nmL.getD k [] = w
      · rw [decide_eq_true hc] at hcm
        rw [if_pos hc] at hst
        generalize bs (nmL.getD k []) = M at *
        repeat' (first | with_reducible first | refine kI (by kernel_rfl) ?_ | refine kN (by kernel_rfl) ?_ | simp -implicitDefEqProofs (disch := omega) only [go_sem, Nat.reduceAdd, Nat.reduceSub, reduceCtorEq, Nat.reduceLT, Nat.reduceLeDiff, Nat.reduceEqDiff, Nat.reduceMul, Int.reduceToNat, ↓reduceIte, List.take_of_length_le, if_pos, if_neg, getD_exs, evApp_st0, cnE, cnV, Tryz.ntmps78, Tryz.results78,  hki, nmB_len, hnm, hwl, hw0, hcm])
        exact ⟨8 - (k + 1), by omega, hI0 _ _ ⟨k + 1, (k : Int), (), mixI rfl, hk, hst.symm, rfl⟩⟩
      · rw [decide_eq_false hc] at hcm
        rw [if_neg hc] at hst
        generalize bs (nmL.getD k []) = M at *
        repeat' (first | with_reducible first | refine kI (by kernel_rfl) ?_ | refine kN (by kernel_rfl) ?_ | simp -implicitDefEqProofs (disch := omega) only [go_sem, Nat.reduceAdd, Nat.reduceSub, reduceCtorEq, Nat.reduceLT, Nat.reduceLeDiff, Nat.reduceEqDiff, Nat.reduceMul, Int.reduceToNat, ↓reduceIte, List.take_of_length_le, if_pos, if_neg, getD_exs, evApp_st0, cnE, cnV, Tryz.ntmps78, Tryz.results78,  hki, nmB_len, hnm, hwl, hw0, hcm])
        exact ⟨8 - (k + 1), by omega, hI0 _ _ ⟨k + 1, K, (), mixI rfl, hk, (by rw [hst]; exact gK), rfl⟩⟩
    · obtain rfl : k = 8 := by omega
      have hpa := fun l h => par_w_some (S := s.data.toList) (w := w) (r := r) (l := l) hsp h
      rw [show nmI w = K from gK.symm] at hpa
      repeat' (first | with_reducible first | refine kI (by kernel_rfl) ?_ | simp -implicitDefEqProofs (disch := omega) only [go_sem, Nat.reduceAdd, Nat.reduceSub, reduceCtorEq, Nat.reduceLT, Nat.reduceLeDiff, Nat.reduceEqDiff, Nat.reduceMul, Int.reduceToNat, ↓reduceIte, List.take_of_length_le, if_pos, if_neg, getD_exs, evApp_st0, cnE, cnV, Tryz.ntmps78, Tryz.results78,  nmB_len])
      refine LoopQ.mix (fun t0 L0 nn ss => ∃ (i : Nat) (l : List Int) (_ : Unit), (∃ x : Nat → AV, ss = ⟨mixL 0 (.k :: .k :: .k :: .s :: .k :: .k :: .k :: .k :: .v (i64 ((i + 1 : Nat) : Int)) :: .s :: .s :: .k :: .k :: .k :: .k :: .k :: .k :: .k :: .k :: .k :: .k :: .k :: .k :: .k :: .k :: .k :: .k :: .k :: .k :: .k :: .k :: .s :: .s :: .s :: .s :: .s :: .s :: .s :: .s :: .s :: .s :: .s :: .s :: .s :: .s :: .s :: .s :: .s :: .s :: .s :: .s :: .s :: .s :: .s :: .k :: .k :: .k :: .k :: .k :: []) t0 x, [⟨2, [.agg [i64 0, .nilS]]⟩, ⟨2, [.agg [i64 K, nuR 2 i]]⟩] ++ nuN i l⟩) ∧ (i ≤ r.length) ∧ (rdInts (r.take i) = some l) ∧ (l.length = i) ∧ nn = r.length - i) ?_ ?_
      · exact ⟨_, ⟨0, [], (), mixI rfl, Nat.zero_le _, rfl, rfl, rfl⟩⟩
      · rintro I0 hI0 nn ss ⟨i, l, _, ⟨y, rfl⟩, g1, g2, g3, rfl⟩
        have hW : (Ws.length : Int) = (r.length : Int) + 1 := by omega
        by_cases hi : i < r.length
        · have hii : (i : Int) + 1 < (r.length : Int) + 1 := by omega
          have hi1 : (i + 1 : Nat) < Ws.length := by omega
          have hwd := hget i hi
          have hx := hsz (r.getD i []) (by rw [List.mem_cons]; right; simp [hi])
          have qr := gRd_eq (s := bs (r.getD i [])) (by rw [bs_size]; omega)
          rw [data_bs] at qr
          have hw2 : IntKind.i64.wrap ((i : Int) + 1 + 1) = (i : Int) + 1 + 1 := wrap_in (by omega)
          cases hb : (rdF (r.getD i [])).2 with
          | false =>
            rw [par_rd_none hsp (rd_fail hi g2 hb)]
            generalize rdF (r.getD i []) = R at *
            obtain ⟨x, b⟩ := R
            dsimp only at hb
            subst hb
            generalize bs (r.getD i []) = M at *
            repeat' (first | with_reducible first | refine kI (by kernel_rfl) ?_ | refine kN (by kernel_rfl) ?_ | simp -implicitDefEqProofs (disch := omega) only [go_sem, Nat.reduceAdd, Nat.reduceSub, reduceCtorEq, Nat.reduceLT, Nat.reduceLeDiff, Nat.reduceEqDiff, Nat.reduceMul, Int.reduceToNat, ↓reduceIte, List.take_of_length_le, if_pos, if_neg, getD_exs, evApp_st0, cnE, cnV, Tryz.ntmps78, Tryz.results78,  hW, hii, hi1, hwd, hr, qr])
            try rfl
          | true =>
            have hnx := rd_next hi g2 hb
            generalize rdF (r.getD i []) = R at *
            obtain ⟨x, b⟩ := R
            dsimp only at hb hnx
            subst hb
            generalize bs (r.getD i []) = M at *
            match i, hi, g3 with
            | 0, hi, g3 =>
              obtain rfl : l = [] := List.eq_nil_of_length_eq_zero g3
              repeat' (first | with_reducible first | refine kI (by kernel_rfl) ?_ | refine kN (by kernel_rfl) ?_ | simp -implicitDefEqProofs (disch := omega) only [go_sem, Nat.reduceAdd, Nat.reduceSub, reduceCtorEq, Nat.reduceLT, Nat.reduceLeDiff, Nat.reduceEqDiff, Nat.reduceMul, Int.reduceToNat, ↓reduceIte, List.take_of_length_le, if_pos, if_neg, getD_exs, evApp_st0, cnE, cnV, Tryz.ntmps78, Tryz.results78,  hW, hii, hi1, hwd, hr, qr, nuR_0, nuN_0])
              exact ⟨r.length - 1, by omega, hI0 _ _ ⟨0 + 1, [x], (), mixI rfl, hi, hnx, rfl, rfl⟩⟩
            | i + 1, hi, g3 =>
              repeat' (first | with_reducible first | refine kI (by kernel_rfl) ?_ | refine kN (by kernel_rfl) ?_ | simp -implicitDefEqProofs (disch := omega) only [go_sem, Nat.reduceAdd, Nat.reduceSub, reduceCtorEq, Nat.reduceLT, Nat.reduceLeDiff, Nat.reduceEqDiff, Nat.reduceMul, Int.reduceToNat, ↓reduceIte, List.take_of_length_le, if_pos, if_neg, getD_exs, evApp_st0, cnE, cnV, Tryz.ntmps78, Tryz.results78,  hW, hii, hi1, hwd, hr, qr, nuR_s, nuN_s, g3, hw2])
              exact ⟨r.length - (i + 1 + 1), by omega, hI0 _ _ ⟨i + 1 + 1, l ++ [x], (), mixI rfl, hi, hnx, (by rw [List.length_append, g3]; rfl), rfl⟩⟩
        · have hir : i = r.length := by omega
          rw [hir, List.take_length] at g2
          have hni : ¬ (i : Int) + 1 < (r.length : Int) + 1 := by omega
          rw [hpa l (rdInts_some g2)]
          have qa := gActB_eq (a := ⟨K, l⟩) (by dsimp only; omega)
          cases e : actB ⟨K, l⟩ with
          | false =>
            rw [e] at qa
            rw [if_neg (by simp)]
            match i, g3 with
            | 0, g3 =>
              obtain rfl : l = [] := List.eq_nil_of_length_eq_zero g3
              repeat' (first | with_reducible first | refine kI (by kernel_rfl) ?_ | refine kN (by kernel_rfl) ?_ | simp -implicitDefEqProofs (disch := omega) only [go_sem, Nat.reduceAdd, Nat.reduceSub, reduceCtorEq, Nat.reduceLT, Nat.reduceLeDiff, Nat.reduceEqDiff, Nat.reduceMul, Int.reduceToNat, ↓reduceIte, List.take_of_length_le, if_pos, if_neg, getD_exs, evApp_st0, cnE, cnV, Tryz.ntmps78, Tryz.results78,  hW, hni, nuR_0, nuN_0, hv, qa])
              try rfl
            | i + 1, g3 =>
              repeat' (first | with_reducible first | refine kI (by kernel_rfl) ?_ | refine kN (by kernel_rfl) ?_ | simp -implicitDefEqProofs (disch := omega) only [go_sem, Nat.reduceAdd, Nat.reduceSub, reduceCtorEq, Nat.reduceLT, Nat.reduceLeDiff, Nat.reduceEqDiff, Nat.reduceMul, Int.reduceToNat, ↓reduceIte, List.take_of_length_le, if_pos, if_neg, getD_exs, evApp_st0, cnE, cnV, Tryz.ntmps78, Tryz.results78,  hW, hni, nuR_s, nuN_s, g3, hv, qa])
              try rfl
          | true =>
            rw [e] at qa
            rw [if_pos rfl]
            match i, g3 with
            | 0, g3 =>
              obtain rfl : l = [] := List.eq_nil_of_length_eq_zero g3
              repeat' (first | with_reducible first | refine kI (by kernel_rfl) ?_ | refine kN (by kernel_rfl) ?_ | simp -implicitDefEqProofs (disch := omega) only [go_sem, Nat.reduceAdd, Nat.reduceSub, reduceCtorEq, Nat.reduceLT, Nat.reduceLeDiff, Nat.reduceEqDiff, Nat.reduceMul, Int.reduceToNat, ↓reduceIte, List.take_of_length_le, if_pos, if_neg, getD_exs, evApp_st0, cnE, cnV, Tryz.ntmps78, Tryz.results78,  hW, hni, nuR_0, nuN_0, hv, qa])
              try rfl
            | i + 1, g3 =>
              repeat' (first | with_reducible first | refine kI (by kernel_rfl) ?_ | refine kN (by kernel_rfl) ?_ | simp -implicitDefEqProofs (disch := omega) only [go_sem, Nat.reduceAdd, Nat.reduceSub, reduceCtorEq, Nat.reduceLT, Nat.reduceLeDiff, Nat.reduceEqDiff, Nat.reduceMul, Int.reduceToNat, ↓reduceIte, List.take_of_length_le, if_pos, if_neg, getD_exs, evApp_st0, cnE, cnV, Tryz.ntmps78, Tryz.results78,  hW, hni, nuR_s, nuN_s, g3, hv, qa])
              try rfl
end Go.Proofs.YtkmnepmnjpdpkaaGreatDoor
