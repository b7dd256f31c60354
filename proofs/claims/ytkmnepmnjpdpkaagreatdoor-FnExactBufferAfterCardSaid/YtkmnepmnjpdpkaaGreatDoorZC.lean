/- Contracts of functions on views and memories that the laws of this seat call. -/
import Derived.Test.YtkmnepmnjpdpkaaGreatDoorZB
import Derived.Test.YtkmnepmnjpdpkaaGreatDoorEvC
set_option linter.all false
namespace Go.Proofs.YtkmnepmnjpdpkaaGreatDoor
open Go Go.Ev Go.RowKit Go.Ev.Enc Go.Pl

set_option maxHeartbeats 4000000 in
set_option maxRecDepth 100000 in
theorem o_NewBufferS {Sg : FuncId → Option (List AV → Option AV)} (hS : Sound Tryz.prog Sg) (hr : Sg 100 = some (F3 gInRange)) (n : Nat) (h : n ≤ 60) : OSpec Tryz.prog 56 [i64 (n : Nat)] (bfR ⟨List.replicate n 0, []⟩) (bfN ⟨List.replicate n 0, []⟩) := by
  refine OSpec.ofR Tryz.func56 rfl (vc3_sound Tryz.pf hS hS _ _ _ ?_)
  have q1 := gInRange_eq (n : Int) 0 60
  have e : inR (n : Int) 0 60 = true := by unfold inR; simp; omega
  rw [e] at q1
  repeat' (first | with_reducible first | refine kI (by kernel_rfl) ?_ | refine kN (by kernel_rfl) ?_ | simp -implicitDefEqProofs (disch := omega) only [go_sem, Nat.reduceAdd, Nat.reduceSub, reduceCtorEq, Nat.reduceLT, Nat.reduceLeDiff, Nat.reduceEqDiff, ↓reduceIte, List.take_of_length_le, if_pos, if_neg, getD_exs, cnE, cnV, Tryz.ntmps56, Tryz.results56,  hr, q1])
  have hl : (List.replicate n (0 : Int)).length = n := List.length_replicate
  rw [show (.sl 1 n 0 n n : AV) = .sl 1 (List.replicate n (0 : Int)).length 0 (List.replicate n (0 : Int)).length (List.replicate n (0 : Int)).length by rw [hl]]
  exact ret_B (B := ⟨List.replicate n 0, []⟩) (i := 1) rfl (exAt_e rfl) (by intro j v o n c hj; cases hj)
theorem new_ok {n : Nat} (h : n ≤ 60) : bufOK ⟨List.replicate n 0, []⟩ = true :=
  bufOK_iff.2 ⟨memOK_iff.2 ⟨by simpa using h, fun x hx => by rw [List.eq_of_mem_replicate hx]; decide⟩, by simp, fun i hi => by simp at hi⟩
def actV (a : Ac) : Prop := actN a ∧ ∀ x ∈ a.n, -100 ≤ x ∧ x ≤ 100
end Go.Proofs.YtkmnepmnjpdpkaaGreatDoor
namespace Go.Proofs.YtkmnepmnjpdpkaaGreatDoor
open Go Go.Ev Go.RowKit Go.Ev.Enc Go.Pl

def ApplyS : Prop := ∀ (B : Bf) (hB : bufOK B = true) (a : Ac) (ha : actN a) (t lo : Nat) (M : List Blk) (hlo : lo ≤ M.length) (v : AV) (hv : BR lo M v B), ISpec Tryz.prog 58 [v, .agg [i64 a.k, ints t a.n]] M (appK lo M B a)
def NewS : Prop := ∀ n : Nat, n ≤ 60 → OSpec Tryz.prog 56 [i64 (n : Nat)] (bfR ⟨List.replicate n 0, []⟩) (bfN ⟨List.replicate n 0, []⟩)
theorem can_NewS : CanCall Tryz.prog 56 := ⟨_, Tryz.func56, rfl, rfl⟩
theorem BR.sub {lo : Nat} {L L' : List Blk} {v : AV} {B : Bf} (h : BR lo L v B) (hs : ∀ (i : Nat) (k : Blk), L[i]? = some k → k.esz ≠ 2 → L'[i]? = some k) : BR lo L' v B := by
  obtain ⟨i, be, h1, h2, h3, hlw⟩ := h
  refine ⟨i, be, h1, hs _ _ h2 (by exact (by decide : (1 : Nat) ≠ 2)), ?_, hlw⟩
  rcases h3 with h3 | ⟨h3, j, h4, h5⟩
  · exact .inl h3
  · exact .inr ⟨h3, j, h4, hs _ _ h5 (by exact (by decide : (5 : Nat) ≠ 2))⟩
theorem BR.put {lo : Nat} {L : List Blk} {v : AV} {B : Bf} (h : BR lo L v B) {q : Nat} {kq : Blk} (hq : L[q]? = some kq) (h2 : kq.esz = 2) (k' : Blk) : BR lo (L.set q k') v B := by
  refine h.sub fun i k hi hk => ?_
  rw [List.getElem?_set_ne]
  · exact hi
  · rintro rfl
    rw [hq] at hi
    cases hi
    exact hk h2
end Go.Proofs.YtkmnepmnjpdpkaaGreatDoor
namespace Go.Proofs.YtkmnepmnjpdpkaaGreatDoor
open Go Go.Ev Go.RowKit Go.Ev.Enc Go.Pl

theorem nz_ints {t : Nat} {l : List Int} : nzStep (ints t l) = ints t l := by
  simp [nzStep, nzIn, expE, Function.comp_def]
theorem nz_exs {t : Nat} {l : List Ex} : nzStep (.ds t (exL t l)) = .ds t (exL t l) := by
  simp [nzStep, nzIn, expE, Function.comp_def]
theorem nz_nil : nzStep .nilS = .ds 1 [] := rfl
theorem nzW_agg {x y : AV} : nzW (.agg [x, y]) = .agg [nzStep x, nzStep y] := rfl
end Go.Proofs.YtkmnepmnjpdpkaaGreatDoor
namespace Go.Proofs.YtkmnepmnjpdpkaaGreatDoor
open Go Go.Ev Go.RowKit Go.Ev.Enc Go.Pl

end Go.Proofs.YtkmnepmnjpdpkaaGreatDoor
