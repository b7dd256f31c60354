/- Contracts of functions that the laws of this seat call. -/
import Derived.Test.YtkmnepmnjpdpkaaGreatDoorXv
import Derived.Test.YtkmnepmnjpdpkaaGreatDoorXw
set_option linter.all false
namespace Go.Proofs.YtkmnepmnjpdpkaaGreatDoor
open Go Go.Ev Go.RowKit Go.Ev.Enc Go.Pl

def DrTxt (f : FuncId) : Prop := ∀ (bs : List UInt8), bs.length ≤ 1048576 → ∀ L : List Blk, ISpec Tryz.prog f [bytesA 0 bs] L fun r L' => ∃ s : ByteArray, s.size ≤ 5000 ∧ r = .str s ∧ L' = L
def SesP : Prop := ∀ {bs : List UInt8} {b n : Nat} {rL : Int → List Blk} (hC : RC bs b n rL) (hb : bs.length ≤ 2000) (p : Int) (hp : 0 ≤ p ∧ p ≤ 600000000), ISpec Tryz.prog 50 [.ptr b 1 0 0] (rL p) fun r L' => ∃ (s : ByteArray) (p' : Int), r = .str s ∧ s.size ≤ 5000 ∧ L' = rL p'
theorem can_DrawActsIn : CanCall Tryz.prog 38 := ⟨_, Tryz.func38, rfl, rfl⟩
set_option maxHeartbeats 4000000 in
set_option maxRecDepth 100000 in
theorem isp_DrawActsIn {Sg : FuncId → Option (List AV → Option AV)} (hS : Sound Tryz.prog Sg) (n1 : Sg 51 = none) (n2 : Sg 50 = none) (bs : List UInt8) (hb : bs.length ≤ 1048576) (L : List Blk) (hse : SesP) : ISpec Tryz.prog 38 [bytesA 0 bs] (L) (fun r L' => ∃ s : ByteArray, s.size ≤ 5000 ∧ r = .str s ∧ L' = L) := by
  refine ISpec.ret Tryz.func38 rfl (vc3_sound Tryz.pf hS hS _ _ _ ?_)
  repeat' (first | with_reducible first | refine kI (by kernel_rfl) ?_ | refine kN (by kernel_rfl) ?_ | (first | refine kB1 ?_ ?_ | refine kB2 ?_ ?_) <;> intro hp | (first | refine kD1 ?_ ?_ | refine kD2 ?_ ?_ | refine kS1 ?_ ?_ | refine kS2 ?_ ?_) <;> intro hp <;> try simp only [hp] | simp -implicitDefEqProofs (disch := omega) only [go_sem, Nat.reduceAdd, Nat.reduceSub, reduceCtorEq, Nat.reduceLT, Nat.reduceLeDiff, Nat.reduceEqDiff, Nat.reduceMul, Int.reduceToNat, ↓reduceIte, List.take_of_length_le, if_pos, if_neg, List.getElem?_set_self, List.set_set, getD_exs, evApp_st0, cnE, cnV, Tryz.ntmps38, Tryz.results38,  n1, opQ_none])
  refine InlK_intro rfl rfl can_newRd ((isp_newReader hS bs hb _).mono ?_)
  rintro r L1 ⟨rfl, rfl⟩
  have hb2 : (bs.take 2000).length ≤ 2000 := by simp; omega
  repeat' (first | with_reducible first | refine kI (by kernel_rfl) ?_ | refine kN (by kernel_rfl) ?_ | (first | refine kB1 ?_ ?_ | refine kB2 ?_ ?_) <;> intro hp | (first | refine kD1 ?_ ?_ | refine kD2 ?_ ?_ | refine kS1 ?_ ?_ | refine kS2 ?_ ?_) <;> intro hp <;> try simp only [hp] | simp -implicitDefEqProofs (disch := omega) only [go_sem, Nat.reduceAdd, Nat.reduceSub, reduceCtorEq, Nat.reduceLT, Nat.reduceLeDiff, Nat.reduceEqDiff, Nat.reduceMul, Int.reduceToNat, ↓reduceIte, List.take_of_length_le, if_pos, if_neg, List.getElem?_set_self, List.set_set, getD_exs, evApp_st0, cnE, cnV, Tryz.ntmps38, Tryz.results38,  n2, opQ_none])
  refine InlK_intro rfl rfl can_session ((hse (RC.new (bs.take 2000) L) hb2 0 (by omega)).mono ?_)
  rintro r L1 ⟨s, p1, rfl, hs, rfl⟩
  repeat' (first | with_reducible first | refine kI (by kernel_rfl) ?_ | refine kN (by kernel_rfl) ?_ | (first | refine kB1 ?_ ?_ | refine kB2 ?_ ?_) <;> intro hp | (first | refine kD1 ?_ ?_ | refine kD2 ?_ ?_ | refine kS1 ?_ ?_ | refine kS2 ?_ ?_) <;> intro hp <;> try simp only [hp] | simp -implicitDefEqProofs (disch := omega) only [go_sem, Nat.reduceAdd, Nat.reduceSub, reduceCtorEq, Nat.reduceLT, Nat.reduceLeDiff, Nat.reduceEqDiff, Nat.reduceMul, Int.reduceToNat, ↓reduceIte, List.take_of_length_le, if_pos, if_neg, List.getElem?_set_self, List.set_set, getD_exs, evApp_st0, cnE, cnV, Tryz.ntmps38, Tryz.results38])
  exact RetQ.top ⟨s, hs, rfl, rfl⟩
theorem acs_ok (n : Nat) (hn : n ≤ 60) (S : List UInt8) : acsB (actsF n S) := by
  have h1 := actsF_len n S
  refine ⟨by omega, fun i hi => ?_⟩
  have := (actsF_val n S _ (mem_ac hi)).1.2
  have := ned_4 ((actsF n S).getD i ac0).k
  omega
theorem lin_snoc (l : List Ac) (a : Ac) : linL (l ++ [a]) = linL l ++ fmtL a ++ [10] := by
  unfold linL
  rw [List.flatMap_append]
  simp
theorem pre_take {R T : List Ac} (h : T <+: R) : R.take T.length = T := (List.prefix_iff_eq_take.1 h).symm
theorem ext_take (s : ByteArray) (n : Nat) (h : n ≤ s.size) : s.extract 0 n = bs (s.data.toList.take n) := by
  rw [ext_bs s 0 n h]; simp
theorem ext_pre {s : ByteArray} {l t : List UInt8} (h : s.data.toList = l ++ t) : (bs l).size ≤ s.size ∧ s.extract 0 (bs l).size = bs l := by
  have hz := sz_data s
  have hl : l.length ≤ s.size := by rw [← hz, h]; simp
  rw [bs_size]
  exact ⟨hl, by rw [ext_take s _ hl, h]; simp⟩
set_option maxHeartbeats 8000000 in
set_option maxRecDepth 100000 in
theorem law_ActsIn {Sg Sd : FuncId → Option (List AV → Option AV)} (hS : Sound Tryz.prog Sg) (hD : Sound Tryz.prog Sd) (n1 : Sg 38 = none) (h1 : Sg 19 = some (F1 gActs)) (h2 : Sg 40 = some (F1 gActs)) (h3 : Sg 39 = some (F2 gEqAs)) (h4 : Sg 27 = some (F1 gFmt)) (hDr : DrTxt 38) : ∀ a r, F1 gTrueW a = some r → CSpec Tryz.prog 9 a r := by
  refine F1_spec ?_
  intro bs' r hr
  obtain ⟨g1, rfl⟩ := gd_some hr
  refine law3 Tryz.func9 rfl Tryz.pf hS hD ?_
  by_cases hb : 1048576 < bs'.length
  · repeat' (first | with_reducible first | refine kI (by kernel_rfl) ?_ | refine kN (by kernel_rfl) ?_ | (first | refine kB1 ?_ ?_ | refine kB2 ?_ ?_) <;> intro hp | (first | refine kD1 ?_ ?_ | refine kD2 ?_ ?_ | refine kS1 ?_ ?_ | refine kS2 ?_ ?_) <;> intro hp <;> try simp only [hp] | simp -implicitDefEqProofs (disch := omega) only [go_sem, Nat.reduceAdd, Nat.reduceSub, reduceCtorEq, Nat.reduceLT, Nat.reduceLeDiff, Nat.reduceEqDiff, Nat.reduceMul, Int.reduceToNat, ↓reduceIte, List.take_of_length_le, if_pos, if_neg, List.getElem?_set_self, List.set_set, getD_exs, evApp_st0, cnE, cnV, Tryz.ntmps9, Tryz.results9])
  · repeat' (first | with_reducible first | refine kI (by kernel_rfl) ?_ | refine kN (by kernel_rfl) ?_ | (first | refine kB1 ?_ ?_ | refine kB2 ?_ ?_) <;> intro hp | (first | refine kD1 ?_ ?_ | refine kD2 ?_ ?_ | refine kS1 ?_ ?_ | refine kS2 ?_ ?_) <;> intro hp <;> try simp only [hp] | simp -implicitDefEqProofs (disch := omega) only [go_sem, Nat.reduceAdd, Nat.reduceSub, reduceCtorEq, Nat.reduceLT, Nat.reduceLeDiff, Nat.reduceEqDiff, Nat.reduceMul, Int.reduceToNat, ↓reduceIte, List.take_of_length_le, if_pos, if_neg, List.getElem?_set_self, List.set_set, getD_exs, evApp_st0, cnE, cnV, Tryz.ntmps9, Tryz.results9,  n1, opQ_none])
    refine InlK_intro rfl rfl can_DrawActsIn ((hDr bs' (by omega) _).mono ?_)
    rintro r L1 ⟨s, hs, rfl, rfl⟩
    have hz := sz_data s
    have q1 := gActs_eq (s := s) (by omega)
    have hok := acs_ok 60 (by omega) s.data.toList
    have q3 := gEqAs_eq hok hok
    rw [decide_eq_true rfl] at q3
    have hlen := actsF_len 60 s.data.toList
    have hval := actsF_val 60 s.data.toList
    obtain ⟨tl, htl⟩ := actsF_txt 60 s.data.toList
    have hpre := fun n => actsF_take 60 s.data.toList n
    generalize actsF 60 s.data.toList = R at *
    repeat' (first | with_reducible first | refine kI (by kernel_rfl) ?_ | refine kN (by kernel_rfl) ?_ | (first | refine kB1 ?_ ?_ | refine kB2 ?_ ?_) <;> intro hp | (first | refine kD1 ?_ ?_ | refine kD2 ?_ ?_ | refine kS1 ?_ ?_ | refine kS2 ?_ ?_) <;> intro hp <;> try simp only [hp] | simp -implicitDefEqProofs (disch := omega) only [go_sem, Nat.reduceAdd, Nat.reduceSub, reduceCtorEq, Nat.reduceLT, Nat.reduceLeDiff, Nat.reduceEqDiff, Nat.reduceMul, Int.reduceToNat, ↓reduceIte, List.take_of_length_le, if_pos, if_neg, List.getElem?_set_self, List.set_set, getD_exs, evApp_st0, cnE, cnV, Tryz.ntmps9, Tryz.results9,  h1, q1, h2, h3, q3])
    refine LoopQ.mix (fun t0 L0 nn ss => ∃ (i : Nat) (z : ByteArray) (_ : Unit), (∃ x : Nat → AV, ss = ⟨mixL 0 (.k :: .k :: .k :: .k :: .k :: .v (.str z) :: .v (i64 (i : Nat)) :: .k :: .k :: .k :: .k :: .k :: .k :: .k :: .k :: .k :: .k :: .k :: .k :: .k :: .k :: .s :: .s :: .s :: .s :: .s :: .s :: .s :: .s :: .s :: .s :: .s :: .s :: .s :: .s :: .k :: .k :: .k :: .k :: .k :: .k :: .k :: .k :: .k :: .k :: .k :: .k :: .k :: .k :: .k :: .k :: .k :: .k :: .k :: .k :: .k :: .k :: .k :: .k :: .k :: .k :: .k :: .k :: .k :: .k :: .k :: .k :: .k :: .k :: .k :: .k :: .k :: .k :: .k :: .k :: .k :: []) t0 x, L0⟩) ∧ (i ≤ R.length) ∧ (z = bs (linL (R.take i))) ∧ (z.size ≤ 100 * i) ∧ nn = R.length - i) ?_ ?_
    · exact ⟨_, ⟨0, ⟨#[]⟩, (), mixI rfl, Nat.zero_le _, rfl, Nat.zero_le _, rfl⟩⟩
    · rintro I0 hI0 nn ss ⟨i, z, _, ⟨y, rfl⟩, f1, f2, f3, rfl⟩
      by_cases hi : i < R.length
      · have hii : (i : Int) < (R.length : Int) := by omega
        have hga := getD_acs (t := 1) hi
        have hav := hval _ (mem_ac hi)
        have htk := take_ac hi
        have e1 := lin_snoc (R.take i) (R.getD i ac0)
        rw [← htk] at e1
        have hsz := fmt_size (R.getD i ac0)
        have hfm : fmtB (R.getD i ac0) = bs (fmtL (R.getD i ac0)) := if_pos (actB_iff.2 hav)
        have hn5 := (hok.2 i hi)
        have q4 := gFmt_eq hn5
        have e2 : bs (linL (R.take (i + 1))) = z ++ fmtB (R.getD i ac0) ++ cNl := by
          rw [e1, hfm, f2, bs_app, show cNl = bs [10] from rfl, bs_app]
        clear e1 hfm
        generalize R.getD i ac0 = a at *
        obtain ⟨k, l⟩ := a
        generalize fmtB ⟨k, l⟩ = F at *
        dsimp only at hga
        have hn1 := z_nl
        have w1 : z.size + F.size ≤ 9223372036854775807 := by omega
        have w2 : z.size + F.size + cNl.size ≤ 9223372036854775807 := by omega
        have hzs : (z ++ F ++ cNl).size ≤ 100 * (i + 1) := by rw [ByteArray.size_append, ByteArray.size_append]; omega
        repeat' (first | with_reducible first | refine kI (by kernel_rfl) ?_ | refine kN (by kernel_rfl) ?_ | (first | refine kB1 ?_ ?_ | refine kB2 ?_ ?_) <;> intro hp | (first | refine kD1 ?_ ?_ | refine kD2 ?_ ?_ | refine kS1 ?_ ?_ | refine kS2 ?_ ?_) <;> intro hp <;> try simp only [hp] | simp -implicitDefEqProofs (disch := omega) only [go_sem, Nat.reduceAdd, Nat.reduceSub, reduceCtorEq, Nat.reduceLT, Nat.reduceLeDiff, Nat.reduceEqDiff, Nat.reduceMul, Int.reduceToNat, ↓reduceIte, List.take_of_length_le, if_pos, if_neg, List.getElem?_set_self, List.set_set, getD_exs, evApp_st0, cnE, cnV, Tryz.ntmps9, Tryz.results9,  hii, hga, h4, q4, w1, w2])
        exact ⟨R.length - (i + 1), by omega, hI0 _ _ ⟨i + 1, z ++ F ++ cNl, (), mixI rfl, hi, e2.symm, hzs, rfl⟩⟩
      · obtain rfl : i = R.length := by omega
        rw [List.take_length] at f2
        obtain ⟨x1, x2⟩ := ext_pre htl
        rw [← f2] at x1 x2
        have x1' : (z.size : Int) ≤ (s.size : Int) := by omega
        have s1 := strEq_t z
        repeat' (first | with_reducible first | refine kI (by kernel_rfl) ?_ | (first | refine kB1 ?_ ?_ | refine kB2 ?_ ?_) <;> intro hp | (first | refine kD1 ?_ ?_ | refine kD2 ?_ ?_ | refine kS1 ?_ ?_ | refine kS2 ?_ ?_) <;> intro hp <;> try simp only [hp] | simp -implicitDefEqProofs (disch := omega) only [go_sem, Nat.reduceAdd, Nat.reduceSub, reduceCtorEq, Nat.reduceLT, Nat.reduceLeDiff, Nat.reduceEqDiff, Nat.reduceMul, Int.reduceToNat, ↓reduceIte, List.take_of_length_le, if_pos, if_neg, List.getElem?_set_self, List.set_set, getD_exs, evApp_st0, cnE, cnV, Tryz.ntmps9, Tryz.results9])
        refine LoopQ.mix (fun t0 L0 nn ss => ∃ (n : Nat) (_ : Unit), (∃ x : Nat → AV, ss = ⟨mixL 0 (.k :: .k :: .s :: .k :: .k :: .k :: .k :: .v (i64 (n : Nat)) :: .s :: .k :: .k :: .k :: .k :: .k :: .k :: .k :: .k :: .k :: .k :: .k :: .k :: .k :: .k :: .k :: .k :: .k :: .k :: .k :: .k :: .k :: .k :: .k :: .k :: .k :: .k :: .s :: .s :: .s :: .s :: .s :: .s :: .s :: .s :: .s :: .s :: .s :: .s :: .s :: .s :: .s :: .s :: .s :: .s :: .s :: .s :: .s :: .s :: .s :: .s :: .s :: .s :: .s :: .s :: .k :: .k :: .k :: .k :: .k :: .k :: .k :: .k :: .k :: .k :: .k :: .k :: .k :: []) t0 x, L0⟩) ∧ (n ≤ 10001) ∧ nn = 20000 - n) ?_ ?_
        · exact ⟨_, ⟨0, (), mixI rfl, Nat.zero_le _, rfl⟩⟩
        · rintro I0 hI0 nn ss ⟨n, _, ⟨y, rfl⟩, g1, rfl⟩
          by_cases hn : n ≤ s.size
          · have hni : (n : Int) ≤ (s.size : Int) := by omega
            have hex := ext_take s n hn
            have q5 := gActs_eq (s := s.extract 0 n) (by rw [ext_size]; omega)
            rw [hex, data_bs] at q5
            have hT := hpre n
            have hTo := acs_ok 60 (by omega) (s.data.toList.take n)
            generalize actsF 60 (s.data.toList.take n) = T at *
            have hTl : T.length ≤ R.length := hT.length_le
            have hTi : (T.length : Int) ≤ (R.length : Int) := by omega
            have hTk := pre_take hT
            have q6 := gEqAs_eq hTo hTo
            rw [decide_eq_true rfl] at q6
            have hq : IntKind.i64.wrap ((s.size : Int).tdiv 40) = ((s.size / 40 : Nat) : Int) := by
              rw [Int.tdiv_eq_ediv_of_nonneg (by omega), wrap_in (by omega)]; rfl
            have hw1 : IntKind.i64.wrap ((n : Int) + 1) = (n : Int) + 1 := wrap_in (by omega)
            have hw2 : IntKind.i64.wrap ((n : Int) + 1 + ((s.size / 40 : Nat) : Int)) = ((n + 1 + s.size / 40 : Nat) : Int) := by rw [wrap_in (by omega)]; omega
            generalize bs (s.data.toList.take n) = Z at *
            repeat' (first | with_reducible first | refine kI (by kernel_rfl) ?_ | refine kN (by kernel_rfl) ?_ | (first | refine kB1 ?_ ?_ | refine kB2 ?_ ?_) <;> intro hp | (first | refine kD1 ?_ ?_ | refine kD2 ?_ ?_ | refine kS1 ?_ ?_ | refine kS2 ?_ ?_) <;> intro hp <;> try simp only [hp] | simp -implicitDefEqProofs (disch := omega) only [go_sem, Nat.reduceAdd, Nat.reduceSub, reduceCtorEq, Nat.reduceLT, Nat.reduceLeDiff, Nat.reduceEqDiff, Nat.reduceMul, Int.reduceToNat, ↓reduceIte, List.take_of_length_le, if_pos, if_neg, List.getElem?_set_self, List.set_set, getD_exs, evApp_st0, cnE, cnV, Tryz.ntmps9, Tryz.results9,  hni, hex, h1, q5, hTi, hTl, hTk, h3, q6, hq, hw1, hw2])
            exact ⟨20000 - (n + 1 + s.size / 40), by omega, hI0 _ _ ⟨n + 1 + s.size / 40, (), mixI rfl, by omega, rfl⟩⟩
          · have hni : ¬ (n : Int) ≤ (s.size : Int) := by omega
            repeat' (first | with_reducible first | refine kI (by kernel_rfl) ?_ | refine kN (by kernel_rfl) ?_ | (first | refine kB1 ?_ ?_ | refine kB2 ?_ ?_) <;> intro hp | (first | refine kD1 ?_ ?_ | refine kD2 ?_ ?_ | refine kS1 ?_ ?_ | refine kS2 ?_ ?_) <;> intro hp <;> try simp only [hp] | simp -implicitDefEqProofs (disch := omega) only [go_sem, Nat.reduceAdd, Nat.reduceSub, reduceCtorEq, Nat.reduceLT, Nat.reduceLeDiff, Nat.reduceEqDiff, Nat.reduceMul, Int.reduceToNat, ↓reduceIte, List.take_of_length_le, if_pos, if_neg, List.getElem?_set_self, List.set_set, getD_exs, evApp_st0, cnE, cnV, Tryz.ntmps9, Tryz.results9,  hni, x1, x1', x2, s1])
end Go.Proofs.YtkmnepmnjpdpkaaGreatDoor
