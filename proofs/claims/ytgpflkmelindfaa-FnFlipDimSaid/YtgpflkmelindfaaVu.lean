/- Contracts of functions that the laws of this seat call. -/
import Derived.Test.YtgpflkmelindfaaVt
set_option linter.all false
namespace Go.Proofs.Ytgpflkmelindfaa
open Go Go.Ev Go.RowKit Go.Ev.Enc Go.Pl

def DrTwo (f : FuncId) : Prop := ∀ (bs : List UInt8), bs.length ≤ 1048576 → ∀ L : List Blk, ISpec Try.prog f [bytesA 0 bs] L fun r L' => ∃ a b : Vi, ((a.sh.length ≤ 4 ∧ a.st.length ≤ 5) ∧ (b.sh.length ≤ 4 ∧ b.st.length ≤ 5)) ∧ r = .tup [viD a, viD b] ∧ L' = L
theorem both_comm (A B : List Int) : bothF A B = bothF B A := by
  unfold bothF
  congr 1
  funext x
  exact Bool.and_comm _ _
theorem okk_comm (a b : Vi) : okk a b = okk b a := Bool.and_comm _ _
theorem both_has {A B : List Int} (h : inC A) {x : Int} (hx : x ∈ A) : (bothF A B).contains x = B.contains x := by
  rw [Bool.eq_iff_iff, List.contains_iff_mem, List.contains_iff_mem, mem_both]
  exact ⟨fun h' => h'.2.2, fun h' => ⟨h x hx, hx, h'⟩⟩
theorem do_may {a b : Vi} (h1 : viewOK a = true) (h2 : viewOK b = true) (h : 0 < (bothF (offF a) (offF b)).length) : mayF a b = true := by
  obtain ⟨x, hx⟩ : ∃ x, x ∈ bothF (offF a) (offF b) := ⟨_, gmem h⟩
  obtain ⟨hx0, ha, hb⟩ := mem_both.1 hx
  have bnd : ∀ v : Vi, viewOK v = true → x ∈ offF v → 0 ≤ (bdF v).1 ∧ (bdF v).1 ≤ x ∧ x ≤ (bdF v).2 := fun v hv hm => by
    have hp : 0 < (offF v).length := List.length_pos_of_mem hm
    have hz : ¬ prodW v.sh = 0 := fun hz => by rw [offF_zero hz] at hp; simp at hp
    unfold bdF
    rw [if_pos ⟨hv, hz⟩]
    obtain ⟨m1, m2⟩ := mnT_b (l := offF v) _ hp (Nat.le_refl _)
    obtain ⟨m3, m4⟩ := mxT_b (l := offF v) _ hp (Nat.le_refl _)
    obtain ⟨i, hi, e⟩ := mem_getI hm
    have := m2 i hi
    have := m4 i hi
    have := offF_in hv _ m1
    dsimp only
    omega
  have b1 := bnd a h1 ha
  have b2 := bnd b h2 hb
  unfold mayF
  simp only [Bool.and_eq_true, decide_eq_true_eq]
  omega
theorem may_do {a b : Vi} (h1 : viewOK a = true) (h2 : viewOK b = true) (ga : (gapF (srt (offF a))).length = 0) (gb : (gapF (srt (offF b))).length = 0) (h : mayF a b = true) : 0 < (bothF (offF a) (offF b)).length := by
  unfold mayF at h
  simp only [Bool.and_eq_true, decide_eq_true_eq] at h
  have all : ∀ v : Vi, viewOK v = true → (gapF (srt (offF v))).length = 0 → 0 ≤ (bdF v).1 → ∀ x, (bdF v).1 ≤ x → x ≤ (bdF v).2 → x ∈ offF v := fun v hv hg h0 x hx1 hx2 => by
    by_cases hz : prodW v.sh = 0
    · rw [bd_none hz] at h0; exact absurd h0 (by decide)
    · have hp := offF_pos hv hz
      unfold bdF at hx1 hx2
      rw [if_pos ⟨hv, hz⟩] at hx1 hx2
      dsimp only at hx1 hx2
      rw [mn_srt hp] at hx1
      rw [mx_srt hp] at hx2
      have hc0 : 0 < (srt (offF v)).length := List.length_pos_of_mem ((srt_mem _ _).2 (gmem hp))
      have := gap_has (srt_in60 (offF_in hv)) hc0 hx1 hx2
      rw [List.eq_nil_of_length_eq_zero hg] at this
      have hc : (srt (offF v)).contains x = true := by simpa using this
      exact (srt_mem _ _).1 (List.contains_iff_mem.1 hc)
  have l1 := bd_le a
  have l2 := bd_le b
  obtain ⟨x, x1, x2, x3, x4⟩ : ∃ x, (bdF a).1 ≤ x ∧ x ≤ (bdF a).2 ∧ (bdF b).1 ≤ x ∧ x ≤ (bdF b).2 := by
    by_cases hc : (bdF a).1 ≤ (bdF b).1
    · exact ⟨(bdF b).1, by omega, by omega, by omega, by omega⟩
    · exact ⟨(bdF a).1, by omega, by omega, by omega, by omega⟩
  have m1 := all a h1 ga (by omega) x x1 x2
  have m2 := all b h2 gb (by omega) x x3 x4
  exact List.length_pos_of_mem (mem_both.2 ⟨offF_in h1 x m1, m1, m2⟩)
theorem both_srt {A B : List Int} (hB : inC B) : decide (bothF A B = srt B) = B.all fun x => A.contains x := by
  rw [← both_all hB, Bool.eq_iff_iff, decide_eq_true_eq, decide_eq_true_eq]
  constructor
  · intro h; rw [h]
  · intro h
    have e : bothF A B = (srt B).filter fun x => A.contains x := by
      refine asc_ext (both_asc A B) ((srt_asc B).sublist List.filter_sublist) fun x => ?_
      rw [List.mem_filter, List.contains_iff_mem, srt_mem, mem_both]
      exact ⟨fun h => ⟨h.2.2, h.2.1⟩, fun h => ⟨hB x h.1, h.2, h.1⟩⟩
    rw [e] at h ⊢
    exact List.filter_eq_self.2 (List.length_filter_eq_length_iff.1 h)
end Go.Proofs.Ytgpflkmelindfaa
