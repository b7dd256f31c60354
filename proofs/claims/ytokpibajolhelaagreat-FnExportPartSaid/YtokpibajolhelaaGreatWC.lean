/- Contracts of functions on views and memories that the laws of this seat call. -/
import Derived.Test.YtokpibajolhelaaGreatWB
set_option linter.all false
namespace Go.Proofs.YtokpibajolhelaaGreat
open Go Go.Ev Go.RowKit Go.Ev.Enc Go.Pl

theorem cell_ne {A : List Int} {n i j : Nat} (hA : inM A n) (hd : diffF A = true) (hi : i < A.length) (hj : j < A.length) (hij : i ≠ j) : (A.getD i 0).toNat ≠ (A.getD j 0).toNat := by
  have h1 := hA _ (gmem hi)
  have h2 := hA _ (gmem hj)
  have hp := List.pairwise_iff_getElem.1 (List.nodup_iff_pairwise_ne.1 (diffF_nodup.1 hd))
  have e1 : A.getD i 0 = A[i] := by simp [hi]
  have e2 : A.getD j 0 = A[j] := by simp [hj]
  have : A.getD i 0 ≠ A.getD j 0 := by
    rw [e1, e2]
    rcases Nat.lt_or_gt_of_ne hij with h | h
    · exact hp i j hi hj h
    · exact fun e => hp j i hj hi h e.symm
  omega
theorem sto_at {m A V : List Int} (hA : inM A m.length) (hd : diffF A = true) {i : Nat} (hi : i < A.length) : (stoT m A V A.length).getD (A.getD i 0).toNat 0 = V.getD i 0 := by
  obtain ⟨p, hp, hpm⟩ := in_at hA hi
  rw [hp, Int.toNat_natCast]
  exact stoT_last hpm (by rw [hp, Int.toNat_natCast]) A.length hi fun t h1 h2 => by
    have := cell_ne hA hd h2 hi (by omega)
    rw [hp, Int.toNat_natCast] at this
    exact this
theorem tkn_sto {m A V : List Int} (hA : inM A m.length) (hd : diffF A = true) (hV : V.length = A.length) : tkn (stoT m A V A.length) A = V :=
  ints_ext (by rw [tkn_len, hV]) fun i hi => by
    rw [tkn_len] at hi
    rw [tkn_atI hi, sto_at hA hd hi]
end Go.Proofs.YtokpibajolhelaaGreat
namespace Go.Proofs.YtokpibajolhelaaGreat
open Go Go.Ev Go.RowKit Go.Ev.Enc Go.Pl

end Go.Proofs.YtokpibajolhelaaGreat
namespace Go.Proofs.YtokpibajolhelaaGreat
open Go Go.Ev Go.RowKit Go.Ev.Enc Go.Pl

end Go.Proofs.YtokpibajolhelaaGreat
namespace Go.Proofs.YtokpibajolhelaaGreat
open Go Go.Ev Go.RowKit Go.Ev.Enc Go.Pl

end Go.Proofs.YtokpibajolhelaaGreat
namespace Go.Proofs.YtokpibajolhelaaGreat
open Go Go.Ev Go.RowKit Go.Ev.Enc Go.Pl

end Go.Proofs.YtokpibajolhelaaGreat
namespace Go.Proofs.YtokpibajolhelaaGreat
open Go Go.Ev Go.RowKit Go.Ev.Enc Go.Pl

end Go.Proofs.YtokpibajolhelaaGreat
namespace Go.Proofs.YtokpibajolhelaaGreat
open Go Go.Ev Go.RowKit Go.Ev.Enc Go.Pl

end Go.Proofs.YtokpibajolhelaaGreat
