/- Contracts of functions that the laws of this seat call. -/
import Derived.Test.YtkmnepmnjpdpkaaDoorXp
set_option linter.all false
namespace Go.Proofs.YtkmnepmnjpdpkaaDoor
open Go Go.Ev Go.RowKit Go.Ev.Enc Go.Pl

abbrev acL (t : Nat) (l : List Ac) : List AV := l.map fun a => .agg [.int .i64 a.k, ints t a.n]
theorem enc_acs (t : Nat) (l : List Ac) : (enc t l : AV) = .ds t (acL t l) := rfl
theorem dec_acs (l : List Ac) : (dec (.ds 0 (acL 0 l)) : Option (List Ac)) = some l := (ok _ _).2 rfl
theorem ee_acs (t t' : Nat) (L : List Blk) (l : List Ac) : expE (expC t L) (.ds t' (acL t' l)) = .ds (min t' t) (acL (min t' t) l) := by
  simp [expE, expC, stepC, Function.comp_def]
theorem gcV_acs (n : Nat) (L : List Blk) (t : Nat) (l : List Ac) : gcV n L (.ds t (acL t l)) = .ds t (acL t l) := by
  simp [gcV, expE, gcC, gcStep, Function.comp_def]
theorem gcC_acs (n : Nat) (L : List Blk) (t : Nat) (l : List Ac) : gcC n L (.ds t (acL t l)) = .ds t (acL t l) := gcV_acs n L t l
theorem gcB_acs (n : Nat) (L : List Blk) (e t : Nat) (l : List Ac) : gcB n L ⟨e, acL t l⟩ = ⟨e, acL t l⟩ := by
  simp [gcB, expE, gcC, gcStep, Function.comp_def]
theorem expS_acs (t t' : Nat) (L : List Blk) (e ver off len : Nat) (q : List Ac) : expS t L ver off len (some ⟨e, acL t' q⟩) = if q.length = ver ∧ off + len ≤ ver then .ds t (acL (min t' t) ((q.drop off).take len)) else .any := by
  simp [expS, expE, stepC, Function.comp_def]
theorem len_acs (t : Nat) (l : List Ac) : (acL t l).length = l.length := List.length_map _
theorem all_acs_ok (t : Nat) (l : List Ac) : ((acL t l).all fun y => cellsOk y && decide (y.cells.length = 2)) = true := by
  rw [List.all_eq_true]
  intro x hx
  obtain ⟨n, -, rfl⟩ := List.mem_map.1 hx
  rfl
theorem all_acs_2 (t : Nat) (l : List Ac) : ((acL t l).all fun y => decide (2 = y.cells.length)) = true := by
  rw [List.all_eq_true]
  intro x hx
  obtain ⟨n, -, rfl⟩ := List.mem_map.1 hx
  rfl
attribute [go_sem] enc_acs dec_acs ee_acs gcV_acs gcC_acs gcB_acs expS_acs len_acs all_acs_ok all_acs_2
def ac0 : Ac := ⟨0, []⟩
theorem getD_acs {t : Nat} {l : List Ac} {k : Nat} (h : k < l.length) : (acL t l).getD k .any = .agg [.int .i64 (l.getD k ac0).k, ints t (l.getD k ac0).n] := by simp [h]
theorem app_acs (t : Nat) (l : List Ac) (x : Ac) : acL t l ++ [.agg [.int .i64 x.k, ints t x.n]] = acL t (l ++ [x]) := by simp
theorem evApp_ac0 {L : List Blk} {n by' : Nat} {q : List Ac} {x : Ac} (hn : q.length = n) (h1 : (n + 1) * by' ≤ 140737488355328) (h2 : n + 1 ≤ 9223372036854775807) :
    evApp (⟨2, acL 1 q⟩ :: L) (.sl 0 n 0 n n) [.agg [.int .i64 x.k, ints 1 x.n]] 2 by' = some (.sl 0 (n + 1) 0 (n + 1) (n + 1), ⟨2, acL 1 (q ++ [x])⟩ :: L) := by
  rw [evApp_gen (b := 0) (q := acL 1 q) (new := [.agg [.int .i64 x.k, ints 1 x.n]]) rfl (by rw [len_acs]; exact hn) h1 h2, app_acs]; rfl
theorem par_cases (s : List UInt8) : (∃ a, parL s = some a ∧ parR s = (a, true)) ∨ (parL s = none ∧ parR s = (⟨0, []⟩, false)) := by
  unfold parR
  cases parL s with
  | none => exact .inr ⟨rfl, rfl⟩
  | some a => exact .inl ⟨a, rfl, rfl⟩
theorem par_num {s : List UInt8} {a : Ac} (h : parL s = some a) : a.n.length ≤ 4 := by
  have := (parL_iff.1 h).1.1.2
  have h4 := ned_4 a.k
  omega
theorem ex01 {K : Exit → St → Prop} {s : St} : blockA 1 K (.exit 0) s = K (.exit 0) s := blockA_o rfl
def gActs (s : ByteArray) : Option (List Ac) := gd (s.size < 4294967281) (actsF 60 s.data.toList)
theorem gActs_eq {s : ByteArray} (h : s.size < 4294967281) : gActs s = some (actsF 60 s.data.toList) := gd_eq h
theorem actsF_step {n : Nat} {S : List UInt8} : actsF (n + 1) S = if (Lib.cut S [10]).2.2 = true then (match parL (Lib.cut S [10]).1 with
    | some a => a :: actsF n (Lib.cut S [10]).2.1
    | none => []) else [] := rfl
theorem cut_size (S : List UInt8) : (Lib.cut S [10]).1.length ≤ S.length ∧ (Lib.cut S [10]).2.1.length ≤ S.length := by
  rcases spl_or 10 S with hm | ⟨w, t, rfl, hw⟩
  · rw [cut_miss1 hm]; simp
  · rw [cut_hit1 hw]; simp; omega
end Go.Proofs.YtkmnepmnjpdpkaaDoor
