/- Contracts of functions that the laws of this seat call. -/
import Derived.Test.YtkmnepmnjpdpkaaGreatDoorXp
set_option linter.all false
namespace Go.Proofs.YtkmnepmnjpdpkaaGreatDoor
open Go Go.Ev Go.RowKit Go.Ev.Enc Go.Pl

abbrev acL (t : Nat) (l : List Ac) : List AV := l.map fun a => .agg [.int .i64 a.k, ints t a.n]
theorem enc_acs (t : Nat) (l : List Ac) : (enc t l : AV) = .ds t (acL t l) := rfl
theorem dec_acs (l : List Ac) : (dec (.ds 0 (acL 0 l)) : Option (List Ac)) = some l := (ok _ _).2 rfl
theorem ee_acs (t t' : Nat) (L : List Blk) (l : List Ac) : expE (expC t L) (.ds t' (acL t' l)) = .ds (min t' t) (acL (min t' t) l) := by
  simp [expE, expC, stepC, Function.comp_def]
theorem gcV_acs (n : Nat) (L : List Blk) (t : Nat) (l : List Ac) : gcV n L (.ds t (acL t l)) = .ds t (acL t l) := by
  simp [gcV, expE, gcC, gcStep, Function.comp_def]
theorem gcC_acs (n : Nat) (L : List Blk) (t : Nat) (l : List Ac) : gcC n L (.ds t (acL t l)) = .ds t (acL t l) := gcV_acs n L t l
theorem gcB_acs (n : Nat) (L : List Blk) (e t : Nat) (l : List Ac) : gcB n L ⟨e, acL t l⟩ = ⟨e, acL t l⟩ := by
  simp [gcB, expE, gcC, gcStep, Function.comp_def]
theorem expS_acs (t t' : Nat) (L : List Blk) (e ver off len : Nat) (q : List Ac) : expS t L ver off len (some ⟨e, acL t' q⟩) = if q.length = ver ∧ off + len ≤ ver then .ds t (acL (min t' t) ((q.drop off).take len)) else .any := by
  simp [expS, expE, stepC, Function.comp_def]
theorem len_acs (t : Nat) (l : List Ac) : (acL t l).length = l.length := List.length_map _
theorem all_acs_ok (t : Nat) (l : List Ac) : ((acL t l).all fun y => cellsOk y && decide (y.cells.length = 2)) = true := by
  rw [List.all_eq_true]
  intro x hx
  obtain ⟨n, -, rfl⟩ := List.mem_map.1 hx
  rfl
theorem all_acs_2 (t : Nat) (l : List Ac) : ((acL t l).all fun y => decide (2 = y.cells.length)) = true := by
  rw [List.all_eq_true]
  intro x hx
  obtain ⟨n, -, rfl⟩ := List.mem_map.1 hx
  rfl
attribute [go_sem] enc_acs dec_acs ee_acs gcV_acs gcC_acs gcB_acs expS_acs len_acs all_acs_ok all_acs_2
def ac0 : Ac := ⟨0, []⟩
theorem getD_acs {t : Nat} {l : List Ac} {k : Nat} (h : k < l.length) : (acL t l).getD k .any = .agg [.int .i64 (l.getD k ac0).k, ints t (l.getD k ac0).n] := by simp [h]
theorem app_acs (t : Nat) (l : List Ac) (x : Ac) : acL t l ++ [.agg [.int .i64 x.k, ints t x.n]] = acL t (l ++ [x]) := by simp
theorem evApp_ac0 {L : List Blk} {n by' : Nat} {q : List Ac} {x : Ac} (hn : q.length = n) (h1 : (n + 1) * by' ≤ 140737488355328) (h2 : n + 1 ≤ 9223372036854775807) :
    evApp (⟨2, acL 1 q⟩ :: L) (.sl 0 n 0 n n) [.agg [.int .i64 x.k, ints 1 x.n]] 2 by' = some (.sl 0 (n + 1) 0 (n + 1) (n + 1), ⟨2, acL 1 (q ++ [x])⟩ :: L) := by
  rw [evApp_gen (b := 0) (q := acL 1 q) (new := [.agg [.int .i64 x.k, ints 1 x.n]]) rfl (by rw [len_acs]; exact hn) h1 h2, app_acs]; rfl
theorem par_cases (s : List UInt8) : (∃ a, parL s = some a ∧ parR s = (a, true)) ∨ (parL s = none ∧ parR s = (⟨0, []⟩, false)) := by
  unfold parR
  cases parL s with
  | none => exact .inr ⟨rfl, rfl⟩
  | some a => exact .inl ⟨a, rfl, rfl⟩
theorem par_num {s : List UInt8} {a : Ac} (h : parL s = some a) : a.n.length ≤ 4 := by
  have := (parL_iff.1 h).1.1.2
  have h4 := ned_4 a.k
  omega
theorem ex01 {K : Exit → St → Prop} {s : St} : blockA 1 K (.exit 0) s = K (.exit 0) s := blockA_o rfl
def gActs (s : ByteArray) : Option (List Ac) := gd (s.size < 4294967281) (actsF 60 s.data.toList)
theorem gActs_eq {s : ByteArray} (h : s.size < 4294967281) : gActs s = some (actsF 60 s.data.toList) := gd_eq h
theorem actsF_step {n : Nat} {S : List UInt8} : actsF (n + 1) S = if (Lib.cut S [10]).2.2 = true then (match parL (Lib.cut S [10]).1 with
    | some a => a :: actsF n (Lib.cut S [10]).2.1
    | none => []) else [] := rfl
theorem cut_size (S : List UInt8) : (Lib.cut S [10]).1.length ≤ S.length ∧ (Lib.cut S [10]).2.1.length ≤ S.length := by
  rcases spl_or 10 S with hm | ⟨w, t, rfl, hw⟩
  · rw [cut_miss1 hm]; simp
  · rw [cut_hit1 hw]; simp; omega
set_option maxHeartbeats 4000000 in
set_option maxRecDepth 100000 in
theorem spec_actsInI {Sg : FuncId → Option (List AV → Option AV)} (hS : Sound Tryz.prog Sg) (hc : Sg 90 = some (F2 gCut)) (hp : Sg 73 = some (F1 gPar)) : ∀ a r, F1 gActs a = some r → CSpec Tryz.prog 52 a r := by
  refine F1_spec ?_
  intro s r hr
  obtain ⟨h, rfl⟩ := gd_some hr
  have hz := sz_data s
  obtain ⟨R, hR⟩ : ∃ R, actsF 60 s.data.toList = R := ⟨_, rfl⟩
  rw [hR]
  refine CSpec.intro Tryz.func52 rfl (own _) (vc3_sound Tryz.pf hS hS _ _ _ ?_)
  repeat' (first | with_reducible first | refine kI (by kernel_rfl) ?_ | refine kN (by kernel_rfl) ?_ | simp -implicitDefEqProofs (disch := omega) only [go_sem, Nat.reduceAdd, Nat.reduceSub, reduceCtorEq, Nat.reduceLT, Nat.reduceLeDiff, Nat.reduceEqDiff, ↓reduceIte, List.take_of_length_le, if_pos, if_neg, getD_exs, evApp_st0, cnE, cnV, Tryz.ntmps52, Tryz.results52])
  refine LoopQ.mixG 1 (fun t0 L0 nn ss => ∃ (n : Nat) (z : ByteArray) (W : List Ac) (_ : Unit), (∃ x : Nat → AV, ss = ⟨mixL 0 (.v (.str z) :: .k :: .k :: .v (.sl 0 n 0 n n) :: .s :: .s :: .s :: .s :: .s :: .k :: .s :: .s :: .s :: .s :: .s :: .s :: .s :: .s :: .s :: .s :: .s :: .s :: .s :: .s :: .s :: .s :: .s :: .s :: .s :: .s :: .s :: .s :: .s :: .k :: []) t0 x, [⟨2, acL 1 W⟩]⟩) ∧ (n ≤ 60) ∧ (W.length = n) ∧ (z.size ≤ s.size) ∧ (R = W ++ actsF (60 - n) z.data.toList) ∧ nn = 60 - n) (by simp) ?_ ?_
  · exact ⟨_, ⟨0, s, [], (), mixI rfl, Nat.zero_le _, rfl, Nat.le_refl _, hR.symm, rfl⟩⟩
  · rintro I0 hI0 nn ss ⟨n, z, W, _, ⟨y, rfl⟩, g1, g2, g3, g4, rfl⟩
    by_cases hn : n < 60
    · have hni : (n : Int) < 60 := by omega
      have q1 := gCut_eq (s := z) (c := cNl) (by omega)
      have hcd : cNl.data.toList = [10] := rfl
      unfold cutB3 at q1
      rw [hcd] at q1
      obtain ⟨m, hm⟩ : ∃ m, 60 - n = m + 1 := ⟨60 - n - 1, by omega⟩
      rw [hm, actsF_step] at g4
      have hcs := cut_size z.data.toList
      have hzz := sz_data z
      have hms : m = 60 - (n + 1) := by omega
      generalize Lib.cut z.data.toList [10] = C at *
      obtain ⟨c1, c2, c3⟩ := C
      dsimp only at g4 q1 hcs
      cases c3 with
      | false =>
        rw [if_neg (by simp), List.append_nil] at g4
        rw [g4]
        have htk : W.take n = W := List.take_of_length_le (by omega)
        repeat' (first | with_reducible first | refine kI (by kernel_rfl) ?_ | refine kN (by kernel_rfl) ?_ | simp -implicitDefEqProofs (disch := omega) only [go_sem, Nat.reduceAdd, Nat.reduceSub, reduceCtorEq, Nat.reduceLT, Nat.reduceLeDiff, Nat.reduceEqDiff, ↓reduceIte, List.take_of_length_le, if_pos, if_neg, getD_exs, evApp_st0, cnE, cnV, Tryz.ntmps52, Tryz.results52,  hni, hc, q1, g2, htk, ex01])
        try rfl
      | true =>
        rw [if_pos rfl] at g4
        have q2 := gPar_eq (s := bs c1) (by rw [bs_size]; omega)
        rw [data_bs] at q2
        rcases par_cases c1 with ⟨a, e1, e2⟩ | ⟨e1, e2⟩
        · rw [e1] at g4
          rw [e2] at q2
          have hpn := par_num e1
          obtain ⟨k, l⟩ := a
          dsimp only at g4 hpn
          have ea := fun (L : List Blk) => evApp_ac0 (L := L) (n := n) (by' := 32) (q := W) (x := ⟨k, l⟩) g2 (by omega) (by omega)
          have hW : (W ++ [(⟨k, l⟩ : Ac)]).length = n + 1 := by simp [g2]
          have hsz2 : (bs c2).size ≤ s.size := by rw [bs_size]; omega
          have g4' : R = (W ++ [(⟨k, l⟩ : Ac)]) ++ actsF (60 - (n + 1)) (bs c2).data.toList := by rw [g4, data_bs, ← hms]; simp
          generalize bs c1 = Z1 at *
          generalize bs c2 = Z2 at *
          dsimp only at ea
          repeat' (first | with_reducible first | refine kI (by kernel_rfl) ?_ | refine kN (by kernel_rfl) ?_ | simp -implicitDefEqProofs (disch := omega) only [go_sem, Nat.reduceAdd, Nat.reduceSub, reduceCtorEq, Nat.reduceLT, Nat.reduceLeDiff, Nat.reduceEqDiff, ↓reduceIte, List.take_of_length_le, if_pos, if_neg, getD_exs, evApp_st0, cnE, cnV, Tryz.ntmps52, Tryz.results52,  hni, hc, q1, hp, q2, ea])
          exact ⟨60 - (n + 1), by omega, hI0 _ _ ⟨n + 1, Z2, W ++ [⟨k, l⟩], (), mixI rfl, (by omega), hW, hsz2, g4', rfl⟩⟩
        · rw [e1] at g4
          rw [e2] at q2
          dsimp only at g4
          rw [List.append_nil] at g4
          rw [g4]
          have htk : W.take n = W := List.take_of_length_le (by omega)
          generalize bs c1 = Z1 at *
          generalize bs c2 = Z2 at *
          repeat' (first | with_reducible first | refine kI (by kernel_rfl) ?_ | refine kN (by kernel_rfl) ?_ | simp -implicitDefEqProofs (disch := omega) only [go_sem, Nat.reduceAdd, Nat.reduceSub, reduceCtorEq, Nat.reduceLT, Nat.reduceLeDiff, Nat.reduceEqDiff, ↓reduceIte, List.take_of_length_le, if_pos, if_neg, getD_exs, evApp_st0, cnE, cnV, Tryz.ntmps52, Tryz.results52,  hni, hc, q1, hp, q2, g2, htk, ex01])
          try rfl
    · obtain rfl : n = 60 := by omega
      rw [Nat.sub_self, actsF, List.append_nil] at g4
      rw [g4]
      have htk : W.take 60 = W := List.take_of_length_le (by omega)
      repeat' (first | with_reducible first | refine kI (by kernel_rfl) ?_ | refine kN (by kernel_rfl) ?_ | simp -implicitDefEqProofs (disch := omega) only [go_sem, Nat.reduceAdd, Nat.reduceSub, reduceCtorEq, Nat.reduceLT, Nat.reduceLeDiff, Nat.reduceEqDiff, ↓reduceIte, List.take_of_length_le, if_pos, if_neg, getD_exs, evApp_st0, cnE, cnV, Tryz.ntmps52, Tryz.results52,  g2, htk])
      try rfl
end Go.Proofs.YtkmnepmnjpdpkaaGreatDoor
