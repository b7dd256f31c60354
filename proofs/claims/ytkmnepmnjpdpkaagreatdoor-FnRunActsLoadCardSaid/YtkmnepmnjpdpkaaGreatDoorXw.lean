/- Contracts of functions that the laws of this seat call. -/
import Derived.Test.YtkmnepmnjpdpkaaGreatDoorXu
set_option linter.all false
namespace Go.Proofs.YtkmnepmnjpdpkaaGreatDoor
open Go Go.Ev Go.RowKit Go.Ev.Enc Go.Pl

theorem app_size {B : Bf} {a : Ac} (h : bufOK B = true) : (appF B a).2.size ≤ 1400 := by
  have hn : cNo.size = 2 := rfl
  have ho : cOk.size = 2 := rfl
  unfold appF
  cases e : doneO B a with
  | none => show cNo.size ≤ 1400; omega
  | some B' =>
    dsimp only
    split
    · rename_i h6
      obtain ⟨hop, -⟩ := done_6 e h6
      obtain ⟨m, hm0, hm, hmo⟩ := opnB_iff.1 hop
      rw [hm0]
      have hold := opn_hold h hm hmo
      have h60 := offF_60 (vOK (fit_in hold).2.1).1
      have htl := tkn_len B.c (offF (B.e.getD m ex0).v)
      have htv := tkn_val (bufOK_iff.1 h).1 (fit_in hold).2.2
      have hnl := numsB_len (tkn B.c (offF (B.e.getD m ex0).v)) fun x hx => by have := htv x hx; unfold i64R; omega
      have hvw : vwB B (m : Int) = (B.e.getD m ex0).v := rfl
      rw [hvw, ByteArray.size_append, z_has]
      omega
    · split
      · have h8 := (bufOK_iff.1 (ok_done h e)).2.1
        have := numB_len (n := (B'.e.length : Int) - 1) (by unfold i64R; omega)
        show (cAt ++ numB ((B'.e.length : Int) - 1)).size ≤ 1400
        rw [ByteArray.size_append, z_at]
        omega
      · show cOk.size ≤ 1400; omega
theorem take_ac {l : List Ac} {i : Nat} (h : i < l.length) : l.take (i + 1) = l.take i ++ [l.getD i ac0] := by
  rw [List.take_succ_eq_append_getElem h]; simp [h]
theorem mem_ac {l : List Ac} {i : Nat} (h : i < l.length) : l.getD i ac0 ∈ l := by simp [h]
theorem ans_snoc (B : Bf) (l : List Ac) (a : Ac) : bs (ansB B (l ++ [a])) = bs (ansB B l) ++ ((appF (aftB B l) a).2 ++ cNl) := by
  rw [ansB_snoc, ← bs_app, ← bs_app, bs_data, ByteArray.append_assoc]
  rfl
def runB (S : List UInt8) : ByteArray := bs (ansB bf0 (actsF 60 S))
def gRun (s : ByteArray) : Option ByteArray := gd (s.size < 4294967281) (runB s.data.toList)
theorem gRun_eq {s : ByteArray} (h : s.size < 4294967281) : gRun s = some (runB s.data.toList) := gd_eq h
theorem ok_bf0 : bufOK bf0 = true := by decide
set_option maxHeartbeats 4000000 in
set_option maxRecDepth 100000 in
theorem spec_RunActsI {Sg : FuncId → Option (List AV → Option AV)} (hS : Sound Tryz.prog Sg) (hn : Sg 18 = some (F1 gNewB)) (ha : Sg 52 = some (F1 gActs)) (hp : Sg 53 = some (F2 gAppI)) : ∀ a r, F1 gRun a = some r → CSpec Tryz.prog 23 a r := by
  refine F1_spec ?_
  intro s r hr
  obtain ⟨h, rfl⟩ := gd_some hr
  have q0 : gNewB 0 = some ⟨[], []⟩ := rfl
  have q1 := gActs_eq h
  have hlen := actsF_len 60 s.data.toList
  have hval := actsF_val 60 s.data.toList
  unfold runB
  generalize actsF 60 s.data.toList = l at *
  refine CSpec.intro Tryz.func23 rfl (own _) (vc3_sound Tryz.pf hS hS _ _ _ ?_)
  repeat' (first | with_reducible first | refine kI (by kernel_rfl) ?_ | refine kN (by kernel_rfl) ?_ | simp -implicitDefEqProofs (disch := omega) only [go_sem, Nat.reduceAdd, Nat.reduceSub, reduceCtorEq, Nat.reduceLT, Nat.reduceLeDiff, Nat.reduceEqDiff, ↓reduceIte, List.take_of_length_le, if_pos, if_neg, getD_exs, evApp_st0, cnE, cnV, Tryz.ntmps23, Tryz.results23,  hn, q0, ha, q1])
  refine LoopQ.mixG 1 (fun t0 L0 nn ss => ∃ (i : Nat) (B : Bf) (z : ByteArray) (_ : Unit), (∃ x : Nat → AV, ss = ⟨mixL 0 (.k :: .k :: .k :: .k :: .v (.str z) :: .k :: .s :: .s :: .s :: .k :: .k :: .k :: .k :: .v (i64 (i : Nat)) :: .s :: .s :: .s :: .s :: .s :: .s :: .s :: .s :: .s :: .s :: .s :: .s :: .s :: .s :: .s :: .k :: []) t0 x, [⟨2, [bfA 1 B]⟩]⟩) ∧ (i ≤ l.length) ∧ (B = aftB bf0 (l.take i)) ∧ (bufOK B = true) ∧ (z = bs (ansB bf0 (l.take i))) ∧ (z.size ≤ 1500 * i) ∧ nn = l.length - i) (by simp) ?_ ?_
  · exact ⟨_, ⟨0, bf0, ⟨#[]⟩, (), mixI rfl, Nat.zero_le _, rfl, ok_bf0, rfl, Nat.zero_le _, rfl⟩⟩
  · rintro I0 hI0 nn ss ⟨i, B, z, _, ⟨y, rfl⟩, g1, g2, g3, g4, g5, rfl⟩
    by_cases hi : i < l.length
    · have hii : (i : Int) < (l.length : Int) := by omega
      have hga := getD_acs (t := 1) hi
      have hav := hval _ (mem_ac hi)
      have htk := take_ac hi
      have q2 := gAppI_eq g3 hav
      have hsz := app_size (a := l.getD i ac0) g3
      have hok := app_ok (a := l.getD i ac0) g3
      have e1 := ans_snoc bf0 (l.take i) (l.getD i ac0)
      have e2 := aftB_snoc bf0 (l.take i) (l.getD i ac0)
      rw [← htk, ← g2] at e1 e2
      rw [← g4] at e1
      generalize l.getD i ac0 = a at *
      obtain ⟨k, w⟩ := a
      generalize appF B ⟨k, w⟩ = p at *
      obtain ⟨B', t⟩ := p
      dsimp only at hsz hok e1 e2 hga
      have hn1 := z_nl
      have w1 : t.size + cNl.size ≤ 9223372036854775807 := by omega
      obtain ⟨A, hA⟩ : ∃ A, t ++ cNl = A := ⟨_, rfl⟩
      have hAs : A.size = t.size + 1 := by rw [← hA, ByteArray.size_append, z_nl]
      have w2 : z.size + A.size ≤ 9223372036854775807 := by omega
      rw [hA] at e1
      have hzs : (z ++ A).size ≤ 1500 * (i + 1) := by rw [ByteArray.size_append]; omega
      repeat' (first | with_reducible first | refine kI (by kernel_rfl) ?_ | refine kN (by kernel_rfl) ?_ | simp -implicitDefEqProofs (disch := omega) only [go_sem, Nat.reduceAdd, Nat.reduceSub, reduceCtorEq, Nat.reduceLT, Nat.reduceLeDiff, Nat.reduceEqDiff, ↓reduceIte, List.take_of_length_le, if_pos, if_neg, getD_exs, evApp_st0, cnE, cnV, Tryz.ntmps23, Tryz.results23,  hii, hga, hp, q2, w1, w2, hA])
      exact ⟨l.length - (i + 1), by omega, hI0 _ _ ⟨i + 1, B', z ++ A, (), mixI rfl, hi, e2.symm, hok, e1.symm, hzs, rfl⟩⟩
    · obtain rfl : i = l.length := by omega
      rw [List.take_length] at g4
      rw [← g4]
      repeat' (first | with_reducible first | refine kI (by kernel_rfl) ?_ | refine kN (by kernel_rfl) ?_ | simp -implicitDefEqProofs (disch := omega) only [go_sem, Nat.reduceAdd, Nat.reduceSub, reduceCtorEq, Nat.reduceLT, Nat.reduceLeDiff, Nat.reduceEqDiff, ↓reduceIte, List.take_of_length_le, if_pos, if_neg, getD_exs, evApp_st0, cnE, cnV, Tryz.ntmps23, Tryz.results23])
      try rfl
theorem can_RunActsS : CanCall Tryz.prog 24 := ⟨_, Tryz.func24, rfl, rfl⟩
set_option maxHeartbeats 4000000 in
set_option maxRecDepth 100000 in
theorem isp_RunActsS {Sg : FuncId → Option (List AV → Option AV)} (hS : Sound Tryz.prog Sg) (n1 : Sg 56 = none) (ha : Sg 57 = some (F1 gActs)) (n3 : Sg 58 = none) (s : ByteArray) (hs : s.size < 4294967281) (L : List Blk) (hnew : NewS) (hap : ApplyS) : ISpec Tryz.prog 24 [.str s] (L) (fun r L' => r = .str (runB s.data.toList) ∧ L' = L) := by
  refine ISpec.ret Tryz.func24 rfl (vc3_sound Tryz.pf hS hS _ _ _ ?_)
  have q1 := gActs_eq hs
  have hlen := actsF_len 60 s.data.toList
  have hval := actsF_val 60 s.data.toList
  unfold runB
  generalize actsF 60 s.data.toList = l at *
  repeat' (first | with_reducible first | refine kI (by kernel_rfl) ?_ | simp -implicitDefEqProofs (disch := omega) only [go_sem, Nat.reduceAdd, Nat.reduceSub, reduceCtorEq, Nat.reduceLT, Nat.reduceLeDiff, Nat.reduceEqDiff, ↓reduceIte, List.take_of_length_le, if_pos, if_neg, getD_exs, evApp_st0, cnE, cnV, Tryz.ntmps24, Tryz.results24,  n1, opQ_none])
  refine InlK_intro rfl rfl can_NewS ((hnew 0 (by omega)).call (by simp only [go_sem, ints]; rfl) ?_)
  simp only [bfN, exN]
  have hok := new_ok (n := 0) (by omega)
  have hC0 : List.replicate 0 (0 : Int) = [] := rfl
  rw [hC0] at hok ⊢
  repeat' (first | with_reducible first | refine kI (by kernel_rfl) ?_ | simp -implicitDefEqProofs (disch := omega) only [go_sem, Nat.reduceAdd, Nat.reduceSub, reduceCtorEq, Nat.reduceLT, Nat.reduceLeDiff, Nat.reduceEqDiff, ↓reduceIte, List.take_of_length_le, if_pos, if_neg, getD_exs, evApp_st0, cnE, cnV, Tryz.ntmps24, Tryz.results24,  exR, ha, q1])
  refine LoopQ.mix (fun t0 L0 nn ss => ∃ (i : Nat) (B : Bf) (v : AV) (J : List Blk) (z : ByteArray) (_ : Unit), (∃ x : Nat → AV, ss = ⟨mixL 0 (.k :: .k :: .k :: .k :: .v (.str z) :: .k :: .v (i64 (i : Nat)) :: .s :: .s :: .k :: .k :: .k :: .s :: .s :: .s :: .s :: .s :: .s :: .s :: .s :: .s :: .s :: .s :: .s :: .s :: .s :: .s :: .s :: .s :: .s :: .s :: .s :: .k :: []) t0 x, L ++ (stB [] :: ⟨2, [v]⟩ :: J)⟩) ∧ (i ≤ l.length) ∧ (B = aftB bf0 (l.take i)) ∧ (bufOK B = true) ∧ (BR L.length (L ++ (stB [] :: ⟨2, [v]⟩ :: J)) v B) ∧ (z = bs (ansB bf0 (l.take i))) ∧ (z.size ≤ 1500 * i) ∧ nn = l.length - i) ?_ ?_
  · exact ⟨_, 0, bf0, _, [], ⟨#[]⟩, (), mixJ rfl rfl, Nat.zero_le _, rfl, hok, ⟨L.length, .nilS, rfl, by rw [List.getElem?_append_right (Nat.le_refl _), Nat.sub_self]; rfl, .inl ⟨rfl, rfl⟩, Nat.le_refl _, fun j a o n c hj => by cases hj⟩, rfl, Nat.zero_le _, rfl⟩
  · rintro I0 hI0 nn ss ⟨i, B, v, J, z, _, ⟨y, rfl⟩, g1, g2, g3, hbr, g4, g5, rfl⟩
    obtain ⟨x1, x2, rfl, hx1, hx2⟩ := BR_cells hbr
    by_cases hi : i < l.length
    · have hii : (i : Int) < (l.length : Int) := by omega
      have hga := getD_acs (t := 1) hi
      have hav := hval _ (mem_ac hi)
      have htk := take_ac hi
      have hsz := app_size (a := l.getD i ac0) g3
      have hok := app_ok (a := l.getD i ac0) g3
      have e1 := ans_snoc bf0 (l.take i) (l.getD i ac0)
      have e2 := aftB_snoc bf0 (l.take i) (l.getD i ac0)
      rw [← htk, ← g2] at e1 e2
      rw [← g4] at e1
      generalize l.getD i ac0 = a at *
      obtain ⟨k, w⟩ := a
      dsimp only at hga
      repeat' (first | with_reducible first | refine kI (by kernel_rfl) ?_ | simp -implicitDefEqProofs (disch := omega) only [go_sem, Nat.reduceAdd, Nat.reduceSub, reduceCtorEq, Nat.reduceLT, Nat.reduceLeDiff, Nat.reduceEqDiff, ↓reduceIte, List.take_of_length_le, if_pos, if_neg, getD_exs, evApp_st0, cnE, cnV, Tryz.ntmps24, Tryz.results24,  hx1, hx2, hii])
      refine DrawQ.pend 9 27 [([0, 1, 2, 3, 4], 5, []), ([6, 7, 8, 9], 10, [8])] [11] [8] rfl (by kernel_rfl) ?_
      repeat' (first | with_reducible first | refine kI (by kernel_rfl) ?_ | simp -implicitDefEqProofs (disch := omega) only [go_sem, Nat.reduceAdd, Nat.reduceSub, reduceCtorEq, Nat.reduceLT, Nat.reduceLeDiff, Nat.reduceEqDiff, ↓reduceIte, List.take_of_length_le, if_pos, if_neg, getD_exs, evApp_st0, cnE, cnV, Tryz.ntmps24, Tryz.results24,  hx1, hx2, hga, n3, opQ_none])
      refine InlK_intro rfl rfl can_applyS ((hap B g3 ⟨k, w⟩ hav.1 1 L.length _ (by simp) _ hbr).mono ?_)
      rintro r L1 ⟨x', Y, rfl, rfl, hbr2⟩
      obtain ⟨z1, z2, rfl, hz1, hz2⟩ := BR_cells hbr2
      have hn1 := z_nl
      have w1 : z.size + (appF B ⟨k, w⟩).2.size ≤ 9223372036854775807 := by omega
      have w2 : z.size + (appF B ⟨k, w⟩).2.size + cNl.size ≤ 9223372036854775807 := by omega
      have hzs : (z ++ (appF B ⟨k, w⟩).2 ++ cNl).size ≤ 1500 * (i + 1) := by rw [ByteArray.size_append, ByteArray.size_append]; omega
      rw [← ByteArray.append_assoc] at e1
      have hbp := BR.ext (hbr2.put (q := L.length + 1) (kq := ⟨2, [.agg [x1, x2]]⟩) (by rw [List.append_assoc, get_app_add]; rfl) rfl ⟨2, [.agg [z1, z2]]⟩) [⟨2, [.agg [z1, z2]]⟩]
      rw [List.append_assoc, set_app_add, List.append_assoc] at hbp
      repeat' (first | with_reducible first | refine kI (by kernel_rfl) ?_ | simp -implicitDefEqProofs (disch := omega) only [go_sem, Nat.reduceAdd, Nat.reduceSub, reduceCtorEq, Nat.reduceLT, Nat.reduceLeDiff, Nat.reduceEqDiff, ↓reduceIte, List.take_of_length_le, if_pos, if_neg, getD_exs, evApp_st0, cnE, cnV, Tryz.ntmps24, Tryz.results24,  hx1, hx2, hz1, hz2, w1, w2])
      exact ⟨by omega, l.length - (i + 1), by omega, hI0 _ _ ⟨i + 1, (appF B ⟨k, w⟩).1, .agg [z1, z2], J ++ (Y ++ [⟨2, [.agg [z1, z2]]⟩]), _, (), mixI rfl, hi, e2.symm, hok, by simpa using hbp, e1.symm, hzs, rfl⟩⟩
    · obtain rfl : i = l.length := by omega
      rw [List.take_length] at g4
      rw [← g4]
      repeat' (first | with_reducible first | refine kI (by kernel_rfl) ?_ | simp -implicitDefEqProofs (disch := omega) only [go_sem, Nat.reduceAdd, Nat.reduceSub, reduceCtorEq, Nat.reduceLT, Nat.reduceLeDiff, Nat.reduceEqDiff, ↓reduceIte, List.take_of_length_le, if_pos, if_neg, getD_exs, evApp_st0, cnE, cnV, Tryz.ntmps24, Tryz.results24,  hx1, hx2])
      exact RetQ.top ⟨rfl, rfl⟩
def RunS : Prop := ∀ (s : ByteArray), s.size < 4294967281 → ∀ L : List Blk, ISpec Tryz.prog 24 [.str s] L fun r L' => r = .str (runB s.data.toList) ∧ L' = L
end Go.Proofs.YtkmnepmnjpdpkaaGreatDoor
