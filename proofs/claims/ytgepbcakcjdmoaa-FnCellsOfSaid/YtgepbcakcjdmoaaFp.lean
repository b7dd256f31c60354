/- Contracts of functions that the laws of this seat call. -/
import Derived.Test.YtgepbcakcjdmoaaFo
set_option linter.all false
namespace Go.Proofs.Ytgepbcakcjdmoaa
open Go Go.Ev Go.RowKit Go.Ev.Enc Go.Pl

def diffF (l : List Int) : Bool := decide (∀ k, k < l.length → ¬ l.getD k 0 ∈ l.take k)
theorem gDifferent_eq {l : List Int} (h : l.length < 4294967296) : gDifferent l = some (diffF l) := gd_eq h
/-- labels of a result -/
def goodF (out e : List Int) : Bool := labOK out && diffF out && (tkn e out).all (fun n => inR n 0 60) && shapeOK (tkn e out)
def gGoodOut (out e : List Int) : Option Bool := gd (out.length < 4294967296 ∧ e.length = 5) (goodF out e)
theorem gGoodOut_eq {out e : List Int} (h : out.length < 4294967296 ∧ e.length = 5) : gGoodOut out e = some (goodF out e) := gd_eq h
/-- the result of a contraction; none where it is not possible -/
def contrF (l : List Tsr) (b : List (List Int)) (out e : List Int) : Option Tsr :=
  if goodF out e = true ∧ prodW (e.map pos1) ≤ 4000 then some ⟨tkn e out, contrV l b out (tkn e out) (e.map pos1) (prodW (e.map pos1)).toNat⟩ else none
end Go.Proofs.Ytgepbcakcjdmoaa
