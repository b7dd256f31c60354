/- Contracts of functions on views and memories that the laws of this seat call. -/
import Derived.Test.YtkmnepmnjpdpkaaGreatDoorZB
import Derived.Test.YtkmnepmnjpdpkaaGreatDoorEvC
set_option linter.all false
namespace Go.Proofs.YtkmnepmnjpdpkaaGreatDoor
open Go Go.Ev Go.RowKit Go.Ev.Enc Go.Pl

def actV (a : Ac) : Prop := actN a ∧ ∀ x ∈ a.n, -100 ≤ x ∧ x ≤ 100
end Go.Proofs.YtkmnepmnjpdpkaaGreatDoor
namespace Go.Proofs.YtkmnepmnjpdpkaaGreatDoor
open Go Go.Ev Go.RowKit Go.Ev.Enc Go.Pl

theorem BR.sub {lo : Nat} {L L' : List Blk} {v : AV} {B : Bf} (h : BR lo L v B) (hs : ∀ (i : Nat) (k : Blk), L[i]? = some k → k.esz ≠ 2 → L'[i]? = some k) : BR lo L' v B := by
  obtain ⟨i, be, h1, h2, h3, hlw⟩ := h
  refine ⟨i, be, h1, hs _ _ h2 (by exact (by decide : (1 : Nat) ≠ 2)), ?_, hlw⟩
  rcases h3 with h3 | ⟨h3, j, h4, h5⟩
  · exact .inl h3
  · exact .inr ⟨h3, j, h4, hs _ _ h5 (by exact (by decide : (5 : Nat) ≠ 2))⟩
theorem BR.put {lo : Nat} {L : List Blk} {v : AV} {B : Bf} (h : BR lo L v B) {q : Nat} {kq : Blk} (hq : L[q]? = some kq) (h2 : kq.esz = 2) (k' : Blk) : BR lo (L.set q k') v B := by
  refine h.sub fun i k hi hk => ?_
  rw [List.getElem?_set_ne]
  · exact hi
  · rintro rfl
    rw [hq] at hi
    cases hi
    exact hk h2
end Go.Proofs.YtkmnepmnjpdpkaaGreatDoor
namespace Go.Proofs.YtkmnepmnjpdpkaaGreatDoor
open Go Go.Ev Go.RowKit Go.Ev.Enc Go.Pl

end Go.Proofs.YtkmnepmnjpdpkaaGreatDoor
namespace Go.Proofs.YtkmnepmnjpdpkaaGreatDoor
open Go Go.Ev Go.RowKit Go.Ev.Enc Go.Pl

end Go.Proofs.YtkmnepmnjpdpkaaGreatDoor
