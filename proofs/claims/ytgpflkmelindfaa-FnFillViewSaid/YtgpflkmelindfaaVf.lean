/- Contracts of functions that the laws of this seat call. -/
import Derived.Test.YtgpflkmelindfaaVe
set_option linter.all false
namespace Go.Proofs.Ytgpflkmelindfaa
open Go Go.Ev Go.RowKit Go.Ev.Enc Go.Pl

def insF (l : List Int) (a : Nat) (x : Int) : List Int := l.take a ++ [x] ++ l.drop a
theorem insF_len {l : List Int} {a : Nat} {x : Int} (h : a ≤ l.length) : (insF l a x).length = l.length + 1 := by simp [insF]; omega
theorem can_insert : CanCall Try.prog 155 := ⟨_, Try.func155, rfl, rfl⟩
theorem app_ints' (p q : List Int) (sz : Nat) : (p.map fun n => AV.int .i64 n) ++ (q.map fun n => AV.int .i64 n) = (p ++ q).map fun n => AV.int .i64 n := by rw [List.map_append]
set_option maxHeartbeats 4000000 in
set_option maxRecDepth 100000 in
theorem o_insert {Sg : FuncId → Option (List AV → Option AV)} (hS : Sound Try.prog Sg) (l : List Int) (a : Nat) (x : Int) (h : l.length ≤ 1048576) (ha : a ≤ l.length) : OSpec Try.prog 155 [ints 0 l, i64 (a : Nat), i64 x] (fun n => .sl n (l.length + 1) 0 (l.length + 1) (l.length + 1)) (fun _ => [⟨1, (insF l a x).map fun n => .int .i64 n⟩]) := by
  refine OSpec.intro Try.func155 rfl (vc3_sound Try.pf hS hS _ _ _ ?_)
  have ha' : ((a : Nat) : Int) ≤ (l.length : Int) := by omega
  have h1 : (l.take a).length = a := by rw [List.length_take]; omega
  have h2 : (l.drop a).length = l.length - a := by simp
  have e1 : evApp [⟨1, []⟩] (.sl 0 0 0 0 0) ((l.take a).map fun n => .int .i64 n) 1 8 = some (.sl 0 a 0 a a, [⟨1, (l.take a).map fun n => .int .i64 n⟩]) := by
    have := evApp_gen (L := [⟨1, []⟩]) (b := 0) (n := 0) (sz := 1) (by' := 8) (q := []) (new := (l.take a).map fun n => .int .i64 n) rfl rfl (by rw [List.length_map, h1]; omega) (by rw [List.length_map, h1]; omega)
    rw [this, List.length_map, h1, Nat.zero_add]; rfl
  have e2 : evApp [⟨1, (l.take a).map fun n => .int .i64 n⟩] (.sl 0 a 0 a a) [.int .i64 x] 1 8 = some (.sl 0 (a + 1) 0 (a + 1) (a + 1), [⟨1, (l.take a ++ [x]).map fun n => .int .i64 n⟩]) :=
    evApp_int (L := [⟨1, (l.take a).map fun n => .int .i64 n⟩]) (b := 0) rfl h1 (by omega) (by omega)
  have e3 : evApp [⟨1, (l.take a ++ [x]).map fun n => .int .i64 n⟩] (.sl 0 (a + 1) 0 (a + 1) (a + 1)) ((l.drop a).map fun n => .int .i64 n) 1 8 = some (.sl 0 (l.length + 1) 0 (l.length + 1) (l.length + 1), [⟨1, (insF l a x).map fun n => .int .i64 n⟩]) := by
    have := evApp_gen (L := [⟨1, (l.take a ++ [x]).map fun n => .int .i64 n⟩]) (b := 0) (n := a + 1) (sz := 1) (by' := 8) (q := (l.take a ++ [x]).map fun n => .int .i64 n) (new := (l.drop a).map fun n => .int .i64 n) rfl (by simp; omega) (by rw [List.length_map, h2]; omega) (by rw [List.length_map, h2]; omega)
    rw [this, List.length_map, h2, show a + 1 + (l.length - a) = l.length + 1 by omega, ← List.map_append]; rfl
  repeat' (first | with_reducible first | refine kI (by kernel_rfl) ?_ | (first | refine kB1 ?_ ?_ | refine kB2 ?_ ?_) <;> intro hp | (first | refine kD1 ?_ ?_ | refine kD2 ?_ ?_ | refine kS1 ?_ ?_ | refine kS2 ?_ ?_) <;> intro hp <;> try simp only [hp] | simp -implicitDefEqProofs (disch := omega) only [go_sem, Nat.reduceAdd, Nat.reduceSub, reduceCtorEq, Nat.reduceLT, Nat.reduceLeDiff, Nat.reduceEqDiff, Nat.reduceMul, Int.reduceToNat, ↓reduceIte, List.take_of_length_le, if_pos, if_neg, List.getElem?_set_self, List.set_set, cnE, cnV, Try.ntmps155, Try.results155,  ha', h1, h2])
  refine DrawQ.any [([1, 2, 3, 8, 9, 10, 5, 6, 0], 4), ([], 7), ([], 11)] [12] [5, 6, 8, 9, 10] (by kernel_rfl) ?_
  repeat' (first | with_reducible first | refine kI (by kernel_rfl) ?_ | (first | refine kB1 ?_ ?_ | refine kB2 ?_ ?_) <;> intro hp | (first | refine kD1 ?_ ?_ | refine kD2 ?_ ?_ | refine kS1 ?_ ?_ | refine kS2 ?_ ?_) <;> intro hp <;> try simp only [hp] | simp -implicitDefEqProofs (disch := omega) only [go_sem, Nat.reduceAdd, Nat.reduceSub, reduceCtorEq, Nat.reduceLT, Nat.reduceLeDiff, Nat.reduceEqDiff, Nat.reduceMul, Int.reduceToNat, ↓reduceIte, List.take_of_length_le, if_pos, if_neg, List.getElem?_set_self, List.set_set, cnE, cnV, Try.ntmps155, Try.results155,  ha', h1, h2, e1, e2, e3])
  exact ⟨[0], by simp, by simp, fun _ => rfl, fun _ => by simp only [List.map, List.getD_cons_zero, renB_ints]⟩

/-! ### views in blocks of their own -/
abbrev viA (n m : Nat) (v : Vi) : AV := .agg [i64 v.b, .sl n v.sh.length 0 v.sh.length v.sh.length, .sl m v.st.length 0 v.st.length v.st.length]
abbrev viN (v : Vi) : List Blk := [⟨1, v.sh.map fun n => .int .i64 n⟩, ⟨1, v.st.map fun n => .int .i64 n⟩]
theorem own_vi {v : Vi} {b c : Nat} {L : List Blk} (hb : L[b]? = some ⟨1, v.sh.map fun n => .int .i64 n⟩) (hc : L[c]? = some ⟨1, v.st.map fun n => .int .i64 n⟩) (hbc : b ≠ c) :
    OwnQ (fun n => viA n (n + 1) v) (fun _ => viN v) (viA b c v) L := by
  obtain ⟨hb1, hb2⟩ := List.getElem?_eq_some_iff.1 hb
  obtain ⟨hc1, hc2⟩ := List.getElem?_eq_some_iff.1 hc
  refine ⟨[b, c], by simpa using hbc, by simp [hb1, hc1], fun n => ?_, fun n => ?_⟩
  · have : (b == c) = false := by simpa using hbc
    simp [renV, expE, renC, gOf, List.idxOf?_cons, this]
  · simp [renB, expE, renC, hb, hc, Function.comp_def]
/-- what 'made' leaves -/
def mdR (o : Option Vi) (n : Nat) : AV := match o with
  | some v => .tup [viA n (n + 1) v, .bool true]
  | none => .tup [.agg [i64 0, .nilS, .nilS], .bool false]
def mdN (o : Option Vi) (_ : Nat) : List Blk := match o with
  | some v => viN v
  | none => []
theorem own_md {v : Vi} {b c : Nat} {L : List Blk} (hb : L[b]? = some ⟨1, v.sh.map fun n => .int .i64 n⟩) (hc : L[c]? = some ⟨1, v.st.map fun n => .int .i64 n⟩) (hbc : b ≠ c) :
    OwnQ (mdR (some v)) (mdN (some v)) (.tup [viA b c v, .bool true]) L := by
  obtain ⟨hb1, hb2⟩ := List.getElem?_eq_some_iff.1 hb
  obtain ⟨hc1, hc2⟩ := List.getElem?_eq_some_iff.1 hc
  refine ⟨[b, c], by simpa using hbc, by simp [hb1, hc1], fun n => ?_, fun n => ?_⟩
  · have : (b == c) = false := by simpa using hbc
    simp [mdR, renV, expE, renC, gOf, List.idxOf?_cons, this]
  · simp [mdN, renB, expE, renC, hb, hc, Function.comp_def]
theorem own_md0 {L : List Blk} : OwnQ (mdR none) (mdN none) (.tup [.agg [i64 0, .nilS, .nilS], .bool false]) L :=
  ⟨[], by simp, by simp, fun n => rfl, fun n => rfl⟩
def CopyV : Prop := ∀ l : List Int, l.length ≤ 1048576 → OSpec Try.prog 61 [ints 0 l] (fun n => .sl n l.length 0 l.length l.length) (fun _ => [⟨1, l.map fun n => .int .i64 n⟩])
theorem can_copyV : CanCall Try.prog 61 := ⟨_, Try.func61, rfl, rfl⟩
def viM (v : Vi) : Prop := v.sh.length ≤ 1048576 ∧ v.st.length ≤ 1048576
set_option maxHeartbeats 4000000 in
set_option maxRecDepth 100000 in
theorem o_copyView {Sg : FuncId → Option (List AV → Option AV)} (hS : Sound Try.prog Sg) (n1 : Sg 61 = none) (v : Vi) (h : viM v) (hcp : CopyV) : OSpec Try.prog 114 [.agg [i64 v.b, ints 0 v.sh, ints 0 v.st]] (fun n => viA n (n + 1) v) (fun _ => viN v) := by
  refine OSpec.intro Try.func114 rfl (vc3_sound Try.pf hS hS _ _ _ ?_)
  repeat' (first | with_reducible first | refine kI (by kernel_rfl) ?_ | (first | refine kB1 ?_ ?_ | refine kB2 ?_ ?_) <;> intro hp | (first | refine kD1 ?_ ?_ | refine kD2 ?_ ?_ | refine kS1 ?_ ?_ | refine kS2 ?_ ?_) <;> intro hp <;> try simp only [hp] | simp -implicitDefEqProofs (disch := omega) only [go_sem, Nat.reduceAdd, Nat.reduceSub, reduceCtorEq, Nat.reduceLT, Nat.reduceLeDiff, Nat.reduceEqDiff, Nat.reduceMul, Int.reduceToNat, ↓reduceIte, List.take_of_length_le, if_pos, if_neg, List.getElem?_set_self, List.set_set, cnE, cnV, Try.ntmps114, Try.results114])
  refine DrawQ.any [([0, 1, 2, 3, 5, 6], 4), ([], 7), ([8], 9)] [] [0, 1, 5, 6] (by kernel_rfl) ?_
  repeat' (first | with_reducible first | refine kI (by kernel_rfl) ?_ | (first | refine kB1 ?_ ?_ | refine kB2 ?_ ?_) <;> intro hp | (first | refine kD1 ?_ ?_ | refine kD2 ?_ ?_ | refine kS1 ?_ ?_ | refine kS2 ?_ ?_) <;> intro hp <;> try simp only [hp] | simp -implicitDefEqProofs (disch := omega) only [go_sem, Nat.reduceAdd, Nat.reduceSub, reduceCtorEq, Nat.reduceLT, Nat.reduceLeDiff, Nat.reduceEqDiff, Nat.reduceMul, Int.reduceToNat, ↓reduceIte, List.take_of_length_le, if_pos, if_neg, List.getElem?_set_self, List.set_set, cnE, cnV, Try.ntmps114, Try.results114,  n1, opQ_none])
  refine InlK_intro rfl rfl can_copyV ((hcp v.sh h.1).call (by simp only [go_sem, ints]) ?_)
  repeat' (first | with_reducible first | refine kI (by kernel_rfl) ?_ | (first | refine kB1 ?_ ?_ | refine kB2 ?_ ?_) <;> intro hp | (first | refine kD1 ?_ ?_ | refine kD2 ?_ ?_ | refine kS1 ?_ ?_ | refine kS2 ?_ ?_) <;> intro hp <;> try simp only [hp] | simp -implicitDefEqProofs (disch := omega) only [go_sem, Nat.reduceAdd, Nat.reduceSub, reduceCtorEq, Nat.reduceLT, Nat.reduceLeDiff, Nat.reduceEqDiff, Nat.reduceMul, Int.reduceToNat, ↓reduceIte, List.take_of_length_le, if_pos, if_neg, List.getElem?_set_self, List.set_set, cnE, cnV, Try.ntmps114, Try.results114,  n1, opQ_none])
  refine InlK_intro rfl rfl can_copyV ((hcp v.st h.2).call (by simp only [go_sem, ints]) ?_)
  repeat' (first | with_reducible first | refine kI (by kernel_rfl) ?_ | (first | refine kB1 ?_ ?_ | refine kB2 ?_ ?_) <;> intro hp | (first | refine kD1 ?_ ?_ | refine kD2 ?_ ?_ | refine kS1 ?_ ?_ | refine kS2 ?_ ?_) <;> intro hp <;> try simp only [hp] | simp -implicitDefEqProofs (disch := omega) only [go_sem, Nat.reduceAdd, Nat.reduceSub, reduceCtorEq, Nat.reduceLT, Nat.reduceLeDiff, Nat.reduceEqDiff, Nat.reduceMul, Int.reduceToNat, ↓reduceIte, List.take_of_length_le, if_pos, if_neg, List.getElem?_set_self, List.set_set, cnE, cnV, Try.ntmps114, Try.results114])
  exact own_vi (b := 2) (c := 3) rfl rfl (by decide)
theorem can_copyView : CanCall Try.prog 114 := ⟨_, Try.func114, rfl, rfl⟩
def CopyVi : Prop := ∀ v : Vi, viM v → OSpec Try.prog 114 [.agg [i64 v.b, ints 0 v.sh, ints 0 v.st]] (fun n => viA n (n + 1) v) (fun _ => viN v)
def madeF (v : Vi) : Option Vi := if viewOK v = true then some v else none
set_option maxHeartbeats 4000000 in
set_option maxRecDepth 100000 in
theorem o_made {Sg : FuncId → Option (List AV → Option AV)} (hS : Sound Try.prog Sg) (hv : Sg 69 = some (F1 gValidV)) (n1 : Sg 114 = none) (v : Vi) (h : viM v) (hcv : CopyVi) : OSpec Try.prog 93 [.agg [i64 v.b, ints 0 v.sh, ints 0 v.st]] (mdR (madeF v)) (mdN (madeF v)) := by
  refine OSpec.intro Try.func93 rfl (vc3_sound Try.pf hS hS _ _ _ ?_)
  have q1 := gValidV_eq (v := v) ⟨by have := h.1; omega, by have := h.2; omega⟩
  unfold madeF
  cases e1 : viewOK v with
  | false =>
    rw [e1] at q1
    repeat' (first | with_reducible first | refine kI (by kernel_rfl) ?_ | (first | refine kB1 ?_ ?_ | refine kB2 ?_ ?_) <;> intro hp | (first | refine kD1 ?_ ?_ | refine kD2 ?_ ?_ | refine kS1 ?_ ?_ | refine kS2 ?_ ?_) <;> intro hp <;> try simp only [hp] | simp -implicitDefEqProofs (disch := omega) only [go_sem, Nat.reduceAdd, Nat.reduceSub, reduceCtorEq, Nat.reduceLT, Nat.reduceLeDiff, Nat.reduceEqDiff, Nat.reduceMul, Int.reduceToNat, ↓reduceIte, List.take_of_length_le, if_pos, if_neg, List.getElem?_set_self, List.set_set, cnE, cnV, Try.ntmps93, Try.results93,  hv, q1])
    exact own_md0
  | true =>
    rw [e1] at q1
    repeat' (first | with_reducible first | refine kI (by kernel_rfl) ?_ | (first | refine kB1 ?_ ?_ | refine kB2 ?_ ?_) <;> intro hp | (first | refine kD1 ?_ ?_ | refine kD2 ?_ ?_ | refine kS1 ?_ ?_ | refine kS2 ?_ ?_) <;> intro hp <;> try simp only [hp] | simp -implicitDefEqProofs (disch := omega) only [go_sem, Nat.reduceAdd, Nat.reduceSub, reduceCtorEq, Nat.reduceLT, Nat.reduceLeDiff, Nat.reduceEqDiff, Nat.reduceMul, Int.reduceToNat, ↓reduceIte, List.take_of_length_le, if_pos, if_neg, List.getElem?_set_self, List.set_set, cnE, cnV, Try.ntmps93, Try.results93,  hv, q1, n1, opQ_none])
    refine InlK_intro rfl rfl can_copyView ((hcv v h).call (by simp only [go_sem, ints]) ?_)
    repeat' (first | with_reducible first | refine kI (by kernel_rfl) ?_ | (first | refine kB1 ?_ ?_ | refine kB2 ?_ ?_) <;> intro hp | (first | refine kD1 ?_ ?_ | refine kD2 ?_ ?_ | refine kS1 ?_ ?_ | refine kS2 ?_ ?_) <;> intro hp <;> try simp only [hp] | simp -implicitDefEqProofs (disch := omega) only [go_sem, Nat.reduceAdd, Nat.reduceSub, reduceCtorEq, Nat.reduceLT, Nat.reduceLeDiff, Nat.reduceEqDiff, Nat.reduceMul, Int.reduceToNat, ↓reduceIte, List.take_of_length_le, if_pos, if_neg, List.getElem?_set_self, List.set_set, cnE, cnV, Try.ntmps93, Try.results93])
    exact own_md (b := 2) (c := 3) rfl rfl (by decide)
/-! ### strides by rows -/
def rowF (s : List Int) : List Int := (List.range s.length).map fun i => prodW (s.drop (i + 1)).reverse
theorem rowF_len (s : List Int) : (rowF s).length = s.length := by simp [rowF]
theorem rowF_at {s : List Int} {i : Nat} (h : i < s.length) : (rowF s).getD i 0 = prodW (s.drop (i + 1)).reverse := by simp [rowF, h]
theorem prodW_rdrop {s : List Int} {m : Nat} (h : m < s.length) : prodW (s.drop m).reverse = IntKind.i64.wrap (prodW (s.drop (m + 1)).reverse * s.getD m 0) := by
  rw [← rev_dropV h, prodW_snoc]
set_option maxHeartbeats 4000000 in
set_option maxRecDepth 100000 in
theorem o_rowStrides {Sg : FuncId → Option (List AV → Option AV)} (hS : Sound Try.prog Sg) (s : List Int) (h1 : s.length ≤ 1048576) : OSpec Try.prog 152 [ints 0 s] (fun n => .sl n s.length 0 s.length s.length) (fun _ => [⟨1, (rowF s).map fun n => .int .i64 n⟩]) := by
  refine OSpec.intro Try.func152 rfl (vc3_sound Try.pf hS hS _ _ _ ?_)
  have hul := rowF_len s
  repeat' (first | with_reducible first | refine kI (by kernel_rfl) ?_ | refine kN (by kernel_rfl) ?_ | (first | refine kB1 ?_ ?_ | refine kB2 ?_ ?_) <;> intro hp | (first | refine kD1 ?_ ?_ | refine kD2 ?_ ?_ | refine kS1 ?_ ?_ | refine kS2 ?_ ?_) <;> intro hp <;> try simp only [hp] | simp -implicitDefEqProofs (disch := omega) only [go_sem, Nat.reduceAdd, Nat.reduceSub, reduceCtorEq, Nat.reduceLT, Nat.reduceLeDiff, Nat.reduceEqDiff, Nat.reduceMul, Int.reduceToNat, ↓reduceIte, List.take_of_length_le, if_pos, if_neg, List.getElem?_set_self, List.set_set, cnE, cnV, Try.ntmps152, Try.results152])
  refine LoopQ.mix (fun t0 L0 nn ss => ∃ (m : Nat) (_ : Unit), (∃ x : Nat → AV, ss = ⟨mixL 0 (.k :: .k :: .k :: .k :: .v (i64 (prodW (s.drop m).reverse)) :: .v (i64 ((m : Nat) - 1)) :: .k :: .k :: .k :: .k :: .k :: .k :: .s :: .s :: .s :: .s :: .s :: .s :: .s :: .s :: .s :: .s :: .s :: .s :: .s :: .s :: .k :: []) t0 x, [⟨1, (fromEnd (rowF s) m).map fun n => .int .i64 n⟩]⟩) ∧ (m ≤ s.length) ∧ nn = m + 1) ?_ ?_
  · exact ⟨_, s.length, (), mixJ (by rw [List.drop_of_length_le (Nat.le_refl _)]; rfl) (by rw [fromEnd, List.drop_of_length_le (by omega), List.append_nil]), Nat.le_refl _, rfl⟩
  · rintro I0 hI0 n ss ⟨m, _, ⟨x, rfl⟩, g1, rfl⟩
    match m, g1 with
    | 0, _ =>
      have h0 : fromEnd (rowF s) 0 = rowF s := by simp [fromEnd]
      rw [h0]
      repeat' (first | with_reducible first | refine kI (by kernel_rfl) ?_ | refine kN (by kernel_rfl) ?_ | (first | refine kB1 ?_ ?_ | refine kB2 ?_ ?_) <;> intro hp | (first | refine kD1 ?_ ?_ | refine kD2 ?_ ?_ | refine kS1 ?_ ?_ | refine kS2 ?_ ?_) <;> intro hp <;> try simp only [hp] | simp -implicitDefEqProofs (disch := omega) only [go_sem, Nat.reduceAdd, Nat.reduceSub, reduceCtorEq, Nat.reduceLT, Nat.reduceLeDiff, Nat.reduceEqDiff, Nat.reduceMul, Int.reduceToNat, ↓reduceIte, List.take_of_length_le, if_pos, if_neg, List.getElem?_set_self, List.set_set, cnE, cnV, Try.ntmps152, Try.results152])
      exact ⟨[0], by simp, by simp, fun _ => rfl, fun _ => by simp only [List.map, List.getD_cons_zero, renB_ints]⟩
    | m + 1, hm =>
      have ht := fromEnd_len (l := rowF s) (m := m + 1) (by omega)
      have hs := fromEnd_set (l := rowF s) (m := m) (by omega)
      rw [rowF_at (by omega)] at hs
      have e1 : (((m + 1 : Nat) : Int) - 1) = (m : Int) := by omega
      have hw := prodW_rdrop (s := s) (m := m) (by omega)
      have hmi : (m : Int) < (s.length : Int) := by omega
      rw [e1]
      repeat' (first | with_reducible first | refine kI (by kernel_rfl) ?_ | refine kN (by kernel_rfl) ?_ | (first | refine kB1 ?_ ?_ | refine kB2 ?_ ?_) <;> intro hp | (first | refine kD1 ?_ ?_ | refine kD2 ?_ ?_ | refine kS1 ?_ ?_ | refine kS2 ?_ ?_) <;> intro hp <;> try simp only [hp] | simp -implicitDefEqProofs (disch := omega) only [go_sem, Nat.reduceAdd, Nat.reduceSub, reduceCtorEq, Nat.reduceLT, Nat.reduceLeDiff, Nat.reduceEqDiff, Nat.reduceMul, Int.reduceToNat, ↓reduceIte, List.take_of_length_le, if_pos, if_neg, List.getElem?_set_self, List.set_set, cnE, cnV, Try.ntmps152, Try.results152,  hs, ht, set_ints, hmi, ← hw])
      exact ⟨m + 1, by omega, hI0 _ _ ⟨m, (), mixI rfl, by omega, rfl⟩⟩
theorem can_rowStrides : CanCall Try.prog 152 := ⟨_, Try.func152, rfl, rfl⟩
def RowSt : Prop := ∀ s : List Int, s.length ≤ 1048576 → OSpec Try.prog 152 [ints 0 s] (fun n => .sl n s.length 0 s.length s.length) (fun _ => [⟨1, (rowF s).map fun n => .int .i64 n⟩])
def newV (s : List Int) : Vi := ⟨0, s, if prodW s = 0 then List.replicate s.length 0 else rowF s⟩
theorem RetQ.one {L X : List Blk} {K : AV → List Blk → Prop} {rv : AV} (i : Nat) (hi : i < X.length) (hK : K (selV (gR L.length [L.length + i]) (L ++ X) rv) (L ++ [selB (gR L.length [L.length + i]) (L ++ X) (X.getD i ⟨0, []⟩)])) : RetQ L K rv (L ++ X) :=
  ⟨[L.length + i], by simp, by simp; omega, by simp, fun b hb => .inl (List.getElem?_append_left hb), by
    have e : (L ++ X).getD (L.length + i) ⟨0, []⟩ = X.getD i ⟨0, []⟩ := by
      simp only [List.getD_eq_getElem?_getD]
      rw [List.getElem?_append_right (by omega), Nat.add_sub_cancel_left]
    rw [List.map_cons, List.map_nil, e, List.take_left]
    exact hK⟩
theorem gR_one {n i : Nat} : gR n [n + i] (n + i) = some n := by
  unfold gR
  rw [if_neg (by omega)]
  simp [List.idxOf?_cons]
/-- a view of which the strides are its own -/
abbrev viS (n : Nat) (v : Vi) : AV := .agg [i64 v.b, ints 1 v.sh, .sl n v.st.length 0 v.st.length v.st.length]
abbrev stB (l : List Int) : Blk := ⟨1, l.map fun n => .int .i64 n⟩
theorem selB_ints (g : Nat → Option Nat) (L : List Blk) (l : List Int) : selB g L (stB l) = stB l := by
  simp [selB, expE, selC, selStep, Function.comp_def]
theorem selV_viS {L : List Blk} {n i : Nat} {v : Vi} {k : Nat} (h : n + i = k) : selV (gR n [n + i]) L (viS k v) = viS n v := by
  subst h
  simp [selV, expE, selC, selStep, gR_one, ints, Function.comp_def]
set_option maxHeartbeats 4000000 in
set_option maxRecDepth 100000 in
theorem isp_NewView {Sg : FuncId → Option (List AV → Option AV)} (hS : Sound Try.prog Sg) (hs : Sg 116 = some (F1 gIsShape)) (hc : Sg 109 = some (F1 gCount)) (hcp : Sg 61 = some (F1 gCopyInts)) (n2 : Sg 152 = none) (s : List Int) (h : shapeOK s = true) (t : Nat) (L : List Blk) (hrs : RowSt) : ISpec Try.prog 132 [ints t s] (L) (fun r L' => ∃ st, st.length = s.length ∧ r = viS L.length ⟨0, s, st⟩ ∧ L' = L ++ [stB st]) := by
  refine ISpec.ret Try.func132 rfl (vc3_sound Try.pf hS hS _ _ _ ?_)
  obtain ⟨s1, s2, s3, s4, s5⟩ := shape_facts h
  have q1 := gIsShape_eq (l := s) (by omega)
  rw [h] at q1
  have q2 := gCount_eq (l := s) (by omega)
  have q3 := gCopyInts_eq (l := s) (by omega)
  by_cases e1 : prodW s = 0
  · rw [e1] at q2
    repeat' (first | with_reducible first | refine kI (by kernel_rfl) ?_ | refine kN (by kernel_rfl) ?_ | (first | refine kB1 ?_ ?_ | refine kB2 ?_ ?_) <;> intro hp | (first | refine kD1 ?_ ?_ | refine kD2 ?_ ?_ | refine kS1 ?_ ?_ | refine kS2 ?_ ?_) <;> intro hp <;> try simp only [hp] | simp -implicitDefEqProofs (disch := omega) only [go_sem, Nat.reduceAdd, Nat.reduceSub, reduceCtorEq, Nat.reduceLT, Nat.reduceLeDiff, Nat.reduceEqDiff, Nat.reduceMul, Int.reduceToNat, ↓reduceIte, List.take_of_length_le, if_pos, if_neg, List.getElem?_set_self, List.set_set, cnE, cnV, Try.ntmps132, Try.results132,  hs, q1, hc, q2, hcp, q3])
    refine RetQ.one 1 (by simp) ⟨List.replicate s.length 0, by simp, ?_, ?_⟩
    · exact (congrArg (fun m => selV _ _ (.agg [i64 0, ints 1 s, .sl (L.length + 1) m 0 m m])) (List.length_replicate (n := s.length) (a := (0 : Int))).symm).trans (selV_viS (v := ⟨0, s, List.replicate s.length 0⟩) rfl)
    · exact congrArg (fun k => L ++ [k]) (selB_ints _ _ _)
  · have e1' : (prodW s == 0) = false := beq_f e1
    repeat' (first | with_reducible first | refine kI (by kernel_rfl) ?_ | (first | refine kB1 ?_ ?_ | refine kB2 ?_ ?_) <;> intro hp | (first | refine kD1 ?_ ?_ | refine kD2 ?_ ?_ | refine kS1 ?_ ?_ | refine kS2 ?_ ?_) <;> intro hp <;> try simp only [hp] | simp -implicitDefEqProofs (disch := omega) only [go_sem, Nat.reduceAdd, Nat.reduceSub, reduceCtorEq, Nat.reduceLT, Nat.reduceLeDiff, Nat.reduceEqDiff, Nat.reduceMul, Int.reduceToNat, ↓reduceIte, List.take_of_length_le, if_pos, if_neg, List.getElem?_set_self, List.set_set, cnE, cnV, Try.ntmps132, Try.results132,  hs, q1, hc, q2, e1', hcp, q3, n2, opQ_none])
    refine InlK_intro rfl rfl can_rowStrides ((hrs s (by omega)).call (by simp only [go_sem, ints]) ?_)
    repeat' (first | with_reducible first | refine kI (by kernel_rfl) ?_ | (first | refine kB1 ?_ ?_ | refine kB2 ?_ ?_) <;> intro hp | (first | refine kD1 ?_ ?_ | refine kD2 ?_ ?_ | refine kS1 ?_ ?_ | refine kS2 ?_ ?_) <;> intro hp <;> try simp only [hp] | simp -implicitDefEqProofs (disch := omega) only [go_sem, Nat.reduceAdd, Nat.reduceSub, reduceCtorEq, Nat.reduceLT, Nat.reduceLeDiff, Nat.reduceEqDiff, Nat.reduceMul, Int.reduceToNat, ↓reduceIte, List.take_of_length_le, if_pos, if_neg, List.getElem?_set_self, List.set_set, cnE, cnV, Try.ntmps132, Try.results132])
    refine RetQ.one 1 (by simp) ⟨rowF s, rowF_len s, ?_, ?_⟩
    · exact (congrArg (fun m => selV _ _ (.agg [i64 0, ints 1 s, .sl (L.length + 1) m 0 m m])) (rowF_len s).symm).trans (selV_viS (v := ⟨0, s, rowF s⟩) rfl)
    · exact congrArg (fun k => L ++ [k]) (selB_ints _ _ _)
/-! ### tidy -/
def tidyF (v : Vi) : Vi := if prodW v.sh = 0 then ⟨0, v.sh, List.replicate v.sh.length 0⟩ else v
set_option maxHeartbeats 2000000 in
set_option maxRecDepth 100000 in
theorem isp_tidy {Sg : FuncId → Option (List AV → Option AV)} (hS : Sound Try.prog Sg) (hct : Sg 109 = some (F1 gCount)) (v : Vi) (b c : Nat) (L : List Blk) (hb : L[b]? = some (stB v.sh)) (hc : L[c]? = some (stB v.st)) (hv : v.sh.length < 4294967296) {m k : Nat} (hm : v.sh.length = m) (hk : v.st.length = k) : ISpec Try.prog 128 [.agg [i64 v.b, .sl b m 0 m m, .sl c k 0 k k]] L (fun r L' => ∃ X d, c ≤ d ∧ r = viA b d (tidyF v) ∧ L' = L ++ X ∧ (L ++ X)[b]? = some (stB (tidyF v).sh) ∧ (L ++ X)[d]? = some (stB (tidyF v).st)) := by
  refine ISpec.intro Try.func128 rfl (vc_sound Try.pf hS _ _ _ ?_)
  subst hm hk
  have hbl := (List.getElem?_eq_some_iff.1 hb).1
  have hcl := (List.getElem?_eq_some_iff.1 hc).1
  have hbx : ∀ X, (L ++ X)[b]? = some (stB v.sh) := fun X => by rw [List.getElem?_append_left hbl]; exact hb
  have hcx : ∀ X, (L ++ X)[c]? = some (stB v.st) := fun X => by rw [List.getElem?_append_left hcl]; exact hc
  have hbt : ∀ X m, b < m → ((L ++ X).take m)[b]? = some (stB v.sh) := fun X m hm => by rw [List.getElem?_take_of_lt hm, hbx]
  have q2 := gCount_eq (l := v.sh) (by omega)
  by_cases e1 : prodW v.sh = 0
  · rw [e1] at q2
    have hn : tidyF v = ⟨0, v.sh, List.replicate v.sh.length 0⟩ := by unfold tidyF; rw [if_pos e1]
    rw [hn]
    repeat' (first | with_reducible first | refine kI (by kernel_rfl) ?_ | refine kN (by kernel_rfl) ?_ | (first | refine kB1 ?_ ?_ | refine kB2 ?_ ?_) <;> intro hp | (first | refine kD1 ?_ ?_ | refine kD2 ?_ ?_ | refine kS1 ?_ ?_ | refine kS2 ?_ ?_) <;> intro hp <;> try simp only [hp] | simp -implicitDefEqProofs (disch := omega) only [go_sem, Nat.reduceAdd, Nat.reduceSub, reduceCtorEq, Nat.reduceLT, Nat.reduceLeDiff, Nat.reduceEqDiff, Nat.reduceMul, Int.reduceToNat, ↓reduceIte, List.take_of_length_le, if_pos, if_neg, List.getElem?_set_self, List.set_set, cnE, cnV, Try.ntmps128, Try.results128,  hbt, hbx, hct, q2])
    exact ⟨_, L.length + 2, by omega, by simp only [List.length_replicate, viA], rfl, by rw [List.getElem?_append_right (by omega), Nat.add_sub_cancel_left]; rfl⟩
  · have e1' : (prodW v.sh == 0) = false := beq_f e1
    have hn : tidyF v = v := by unfold tidyF; rw [if_neg e1]
    rw [hn]
    repeat' (first | with_reducible first | refine kI (by kernel_rfl) ?_ | refine kN (by kernel_rfl) ?_ | (first | refine kB1 ?_ ?_ | refine kB2 ?_ ?_) <;> intro hp | (first | refine kD1 ?_ ?_ | refine kD2 ?_ ?_ | refine kS1 ?_ ?_ | refine kS2 ?_ ?_) <;> intro hp <;> try simp only [hp] | simp -implicitDefEqProofs (disch := omega) only [go_sem, Nat.reduceAdd, Nat.reduceSub, reduceCtorEq, Nat.reduceLT, Nat.reduceLeDiff, Nat.reduceEqDiff, Nat.reduceMul, Int.reduceToNat, ↓reduceIte, List.take_of_length_le, if_pos, if_neg, List.getElem?_set_self, List.set_set, cnE, cnV, Try.ntmps128, Try.results128,  hbt, hct, q2, e1'])
    exact ⟨_, c, Nat.le_refl _, rfl, rfl, hbx _, hcx _⟩
theorem numL_in {z s : Int} : ∀ (n : Nat) (x y : Int), y ∈ numL z s n x → (0 < s ∧ x ≤ y ∧ y < z) ∨ (s < 0 ∧ z < y ∧ y ≤ x)
  | 0, x, y, h => by simp [numL] at h
  | n + 1, x, y, h => by
    unfold numL at h
    split at h
    · rename_i hg
      unfold goesOn at hg
      rcases List.mem_cons.1 h with rfl | h
      · omega
      · have := numL_in n _ _ h
        omega
    · simp at h
theorem indF_in {n : Int} {s : Sl} (h : 0 ≤ n ∧ n ≤ 100) : ∀ x ∈ indF n s, -1 ≤ x ∧ x ≤ 100 := fun x hx => by
  have h1 := bndF_in (n := n) (i := s.f) (s := s.s) h.1
  have h2 := bndF_in (n := n) (i := s.t) (s := s.s) h.1
  have ha : -1 ≤ (indR n s).a ∧ (indR n s).a ≤ 100 := by
    unfold indR
    simp only
    split
    · omega
    · split <;> omega
  have hz : -1 ≤ (indR n s).z ∧ (indR n s).z ≤ 100 := by
    unfold indR
    simp only
    split
    · omega
    · split <;> omega
  have := numL_in _ _ _ hx
  omega
theorem nrmF_b {l : List Int} (h : ∀ x ∈ l, -1 ≤ x ∧ x ≤ 100) : rgB (nrmF l) := by
  have hk : ∀ k, k < l.length → -1 ≤ l.getD k 0 ∧ l.getD k 0 ≤ 100 := fun k hk => h _ (gmem hk)
  unfold nrmF
  split
  · decide
  · split
    · have := hk 0 (by omega)
      exact ⟨by dsimp only; omega, by dsimp only; omega, by dsimp only; omega⟩
    · have h0 := hk 0 (by omega)
      have h1 := hk 1 (by omega)
      have h2 := hk (l.length - 1) (by omega)
      refine ⟨by dsimp only; omega, ?_, by dsimp only; omega⟩
      dsimp only
      split <;> omega
def cutG (v : Vi) (d : Nat) (r : Rg) : Vi := ⟨IntKind.i64.wrap (v.b + IntKind.i64.wrap (r.a * v.st.getD d 0)), v.sh.set d (numF r).length, v.st.set d (if (numF r).length ≤ 1 then 0 else IntKind.i64.wrap (r.s * v.st.getD d 0))⟩
def cutF (v : Vi) (d : Nat) (s : Sl) : Vi := tidyF (cutG v d (nrmF (indF (v.sh.getD d 0) s)))
theorem can_tidy : CanCall Try.prog 128 := ⟨_, Try.func128, rfl, rfl⟩
theorem map_setI (l : List Int) (d : Nat) (x : Int) : (l.map fun n => AV.int .i64 n).set d (.int .i64 x) = (l.set d x).map fun n => .int .i64 n := by rw [List.map_set]
theorem getD_setI {l : List Int} {d : Nat} {x : Int} (h : d < l.length) : ((l.set d x).map fun n => AV.int .i64 n).getD d .any = .int .i64 x := by
  rw [getD_ints (by rw [List.length_set]; exact h)]; simp [h]
abbrev slA (s : Sl) : AV := .agg [i64 s.f, i64 s.t, i64 s.s, .bool s.hf, .bool s.ht]
set_option maxHeartbeats 4000000 in
set_option maxRecDepth 100000 in
theorem o_cutDim {Sg : FuncId → Option (List AV → Option AV)} (hS : Sound Try.prog Sg) (hi : Sg 127 = some (F2 gIndices)) (hn : Sg 85 = some (F1 gNormal)) (hm : Sg 119 = some (F1 gNumbers)) (hct : Sg 109 = some (F1 gCount)) (n1 : Sg 114 = none) (n2 : Sg 128 = none) (v : Vi) (d : Nat) (s : Sl) (h : v.sh.length ≤ 1000 ∧ v.st.length = v.sh.length) (hd : d < v.sh.length) (hx : 0 ≤ v.sh.getD d 0 ∧ v.sh.getD d 0 ≤ 100) (hs : slB s) (hcv : CopyVi) : OSpec Try.prog 94 [.agg [i64 v.b, ints 0 v.sh, ints 0 v.st], i64 (d : Nat), slA s] (fun n => viA n (n + 1) (cutF v d s)) (fun _ => viN (cutF v d s)) := by
  refine OSpec.intro Try.func94 rfl (vc3_sound Try.pf hS hS _ _ _ ?_)
  have q1 := gIndices_eq (n := v.sh.getD d 0) (s := s) ⟨hx, hs⟩
  have hin := indF_in (n := v.sh.getD d 0) (s := s) hx
  have hlen : (indF (v.sh.getD d 0) s).length ≤ 2000 := numF_len (indR_b hx hs)
  obtain ⟨I, hI⟩ : ∃ I, indF (v.sh.getD d 0) s = I := ⟨_, rfl⟩
  rw [hI] at q1 hin hlen
  have q2 := gNormal_eq (l := I) ⟨by omega, fun x hx => by have := hin x hx; omega⟩
  have hrb := nrmF_b hin
  have q3 := gNumbers_eq hrb
  have hll := numF_len hrb
  have hcf : cutF v d s = tidyF (cutG v d (nrmF I)) := by unfold cutF; rw [hI]
  rw [hcf]
  generalize hR : nrmF I = R at *
  have hds : d < v.st.length := by omega
  repeat' (first | with_reducible first | refine kI (by kernel_rfl) ?_ | (first | refine kB1 ?_ ?_ | refine kB2 ?_ ?_) <;> intro hp | (first | refine kD1 ?_ ?_ | refine kD2 ?_ ?_ | refine kS1 ?_ ?_ | refine kS2 ?_ ?_) <;> intro hp <;> try simp only [hp] | simp -implicitDefEqProofs (disch := omega) only [go_sem, Nat.reduceAdd, Nat.reduceSub, reduceCtorEq, Nat.reduceLT, Nat.reduceLeDiff, Nat.reduceEqDiff, Nat.reduceMul, Int.reduceToNat, ↓reduceIte, List.take_of_length_le, if_pos, if_neg, List.getElem?_set_self, List.set_set, cnE, cnV, Try.ntmps94, Try.results94,  n1, opQ_none])
  refine InlK_intro rfl rfl can_copyView ((hcv v ⟨by omega, by omega⟩).call (by simp only [go_sem, ints]) ?_)
  repeat' (first | with_reducible first | refine kI (by kernel_rfl) ?_ | (first | refine kB1 ?_ ?_ | refine kB2 ?_ ?_) <;> intro hp | (first | refine kD1 ?_ ?_ | refine kD2 ?_ ?_ | refine kS1 ?_ ?_ | refine kS2 ?_ ?_) <;> intro hp <;> try simp only [hp] | simp -implicitDefEqProofs (disch := omega) only [go_sem, Nat.reduceAdd, Nat.reduceSub, reduceCtorEq, Nat.reduceLT, Nat.reduceLeDiff, Nat.reduceEqDiff, Nat.reduceMul, Int.reduceToNat, ↓reduceIte, List.take_of_length_le, if_pos, if_neg, List.getElem?_set_self, List.set_set, cnE, cnV, Try.ntmps94, Try.results94])
  refine DrawQ.any [([0, 1, 2, 3, 4, 5, 6, 7, 8], 9)] [] [] (by kernel_rfl) ?_
  repeat' (first | with_reducible first | refine kI (by kernel_rfl) ?_ | (first | refine kB1 ?_ ?_ | refine kB2 ?_ ?_) <;> intro hp | (first | refine kD1 ?_ ?_ | refine kD2 ?_ ?_ | refine kS1 ?_ ?_ | refine kS2 ?_ ?_) <;> intro hp <;> try simp only [hp] | simp -implicitDefEqProofs (disch := omega) only [go_sem, Nat.reduceAdd, Nat.reduceSub, reduceCtorEq, Nat.reduceLT, Nat.reduceLeDiff, Nat.reduceEqDiff, Nat.reduceMul, Int.reduceToNat, ↓reduceIte, List.take_of_length_le, if_pos, if_neg, List.getElem?_set_self, List.set_set, cnE, cnV, Try.ntmps94, Try.results94,  hi, q1, hn, q2, hm, q3, map_setI])
  refine DrawQ.any [([0, 1, 2, 3, 4, 5, 6, 7, 8, 9, 10, 11], 12)] [] [] (by kernel_rfl) ?_
  repeat' (first | with_reducible first | refine kI (by kernel_rfl) ?_ | (first | refine kB1 ?_ ?_ | refine kB2 ?_ ?_) <;> intro hp | (first | refine kD1 ?_ ?_ | refine kD2 ?_ ?_ | refine kS1 ?_ ?_ | refine kS2 ?_ ?_) <;> intro hp <;> try simp only [hp] | simp -implicitDefEqProofs (disch := omega) only [go_sem, Nat.reduceAdd, Nat.reduceSub, reduceCtorEq, Nat.reduceLT, Nat.reduceLeDiff, Nat.reduceEqDiff, Nat.reduceMul, Int.reduceToNat, ↓reduceIte, List.take_of_length_le, if_pos, if_neg, List.getElem?_set_self, List.set_set, cnE, cnV, Try.ntmps94, Try.results94])
  refine DrawQ.any [([0, 1, 2, 3, 4, 5, 6, 7, 8, 9, 10, 11], 12)] [] [] (by kernel_rfl) ?_
  have hg := fun x => getD_setI (l := v.st) (d := d) (x := x) hds
  have hcl : (cutG v d R).sh.length = v.sh.length := List.length_set
  have hcs : (cutG v d R).st.length = v.st.length := List.length_set
  repeat' (first | with_reducible first | refine kI (by kernel_rfl) ?_ | (first | refine kB1 ?_ ?_ | refine kB2 ?_ ?_) <;> intro hp | (first | refine kD1 ?_ ?_ | refine kD2 ?_ ?_ | refine kS1 ?_ ?_ | refine kS2 ?_ ?_) <;> intro hp <;> try simp only [hp] | simp -implicitDefEqProofs (disch := omega) only [go_sem, Nat.reduceAdd, Nat.reduceSub, reduceCtorEq, Nat.reduceLT, Nat.reduceLeDiff, Nat.reduceEqDiff, Nat.reduceMul, Int.reduceToNat, ↓reduceIte, List.take_of_length_le, if_pos, if_neg, List.getElem?_set_self, List.set_set, cnE, cnV, Try.ntmps94, Try.results94,  map_setI, hg, List.set_set, n2, opQ_none])
  all_goals
    refine InlK_intro rfl rfl can_tidy ((isp_tidy hS hct (cutG v d R) 3 4 _ rfl (by unfold cutG; first | rw [if_pos (by omega)]; rfl | rw [if_neg (by omega)]; rfl) (by omega) hcl hcs).mono ?_)
    rintro r L1 ⟨X, c, k1, rfl, rfl, k2, k3⟩
    repeat' (first | with_reducible first | refine kI (by kernel_rfl) ?_ | (first | refine kB1 ?_ ?_ | refine kB2 ?_ ?_) <;> intro hp | (first | refine kD1 ?_ ?_ | refine kD2 ?_ ?_ | refine kS1 ?_ ?_ | refine kS2 ?_ ?_) <;> intro hp <;> try simp only [hp] | simp -implicitDefEqProofs (disch := omega) only [go_sem, Nat.reduceAdd, Nat.reduceSub, reduceCtorEq, Nat.reduceLT, Nat.reduceLeDiff, Nat.reduceEqDiff, Nat.reduceMul, Int.reduceToNat, ↓reduceIte, List.take_of_length_le, if_pos, if_neg, List.getElem?_set_self, List.set_set, cnE, cnV, Try.ntmps94, Try.results94])
    obtain ⟨c', rfl⟩ : ∃ c', c = c' + 4 := ⟨c - 4, by omega⟩
    exact own_vi (b := 3) (c := c' + 4) k2 k3 (by omega)
end Go.Proofs.Ytgpflkmelindfaa
