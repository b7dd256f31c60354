/- Contracts of functions that the laws of this seat call. -/
import Derived.Test.YtkmnepmnjpdpkaaGreatDoorXg
set_option linter.all false
namespace Go.Proofs.YtkmnepmnjpdpkaaGreatDoor
open Go Go.Ev Go.RowKit Go.Ev.Enc Go.Pl

theorem done_cases {B B' : Bf} {a : Ac} (h : doneO B a = some B') : B'.e = B.e ∨ (∃ x, B'.e = B.e ++ [x]) ∨ ∃ k, B'.e = cloE B.e k := by
  unfold doneO at h
  dsimp only at h
  split at h
  · left; rw [← (opt_some h).2]
  split at h
  · right; left; rw [← (opt_some h).2]; exact ⟨_, rfl⟩
  split at h
  · right; left; rw [← (opt_some h).2]; exact ⟨_, rfl⟩
  split at h
  · right; left; rw [← (opt_some h).2]; exact ⟨_, rfl⟩
  split at h
  · left; rw [← (opt_some h).2]
  split at h
  · left; rw [← (opt_some h).2]
  split at h
  · right; right; rw [← (opt_some h).2]; exact ⟨_, rfl⟩
  · left; rw [← (opt_some h).2]
theorem clo_len (E : List Ex) (k : Nat) : (cloE E k).length = E.length := List.length_set
theorem clo_o {E : List Ex} {k j : Nat} (h : ((cloE E k).getD j ex0).o = true) : (E.getD j ex0).o = true := by
  unfold cloE at h
  by_cases hj : j < E.length
  · by_cases e : k = j
    · subst e
      simp [hj] at h
    · simp only [List.getD_eq_getElem?_getD, List.getElem?_set_ne e] at h ⊢
      exact h
  · simp [hj, ex0] at h
theorem app_e {B : Bf} {a : Ac} : (B.e.length ≤ (appF B a).1.e.length ∧ (appF B a).1.e.length ≤ B.e.length + 1) ∧ ∀ k, k < B.e.length → ((appF B a).1.e.getD k ex0).o = true → (B.e.getD k ex0).o = true := by
  have hsame : (B.e.length ≤ B.e.length ∧ B.e.length ≤ B.e.length + 1) ∧ ∀ k, k < B.e.length → (B.e.getD k ex0).o = true → (B.e.getD k ex0).o = true := ⟨⟨by omega, by omega⟩, fun _ _ h => h⟩
  unfold appF
  cases e : doneO B a with
  | none => exact hsame
  | some B' =>
    have hB' : (B.e.length ≤ B'.e.length ∧ B'.e.length ≤ B.e.length + 1) ∧ ∀ k, k < B.e.length → (B'.e.getD k ex0).o = true → (B.e.getD k ex0).o = true := by
      rcases done_cases e with h | ⟨x, h⟩ | ⟨k, h⟩
      · rw [h]; exact hsame
      · rw [h]
        refine ⟨⟨by simp, by simp⟩, fun k hk ho => ?_⟩
        simpa only [List.getD_eq_getElem?_getD, List.getElem?_append_left hk] using ho
      · rw [h, clo_len]
        exact ⟨⟨by omega, by omega⟩, fun j _ ho => clo_o ho⟩
    dsimp only
    split
    · exact hsame
    split
    · exact hB'
    · exact hB'
theorem app_ne {B : Bf} {a : Ac} : (appF B a).2 ≠ ⟨#[]⟩ := by
  intro h
  have h0 : (appF B a).2.size = 0 := by rw [h]; rfl
  revert h0
  unfold appF
  split
  · intro h0; exact absurd h0 (show ¬ cNo.size = 0 by decide)
  · split
    · rw [ByteArray.size_append, z_has]; omega
    · split
      · rw [ByteArray.size_append, z_at]; omega
      · intro h0; exact absurd h0 (show ¬ cOk.size = 0 by decide)
theorem app_same {B : Bf} {a : Ac} (h : (appF B a).2 = cNo ∨ a.k = 6) : (appF B a).1 = B := by
  have hn : cNo.size = 2 := rfl
  unfold appF at h ⊢
  cases e : doneO B a with
  | none => rfl
  | some B' =>
    rw [e] at h
    dsimp only at h ⊢
    by_cases h6 : a.k = 6
    · rw [if_pos h6]
    · rw [if_neg h6] at h ⊢
      rcases h with h | h
      · exfalso
        by_cases h1 : a.k = 1 ∨ a.k = 2 ∨ a.k = 3
        · rw [if_pos h1] at h
          have := congrArg ByteArray.size h
          rw [ByteArray.size_append, z_at, hn] at this
          omega
        · rw [if_neg h1] at h
          exact absurd (congrArg (fun s : ByteArray => s.data.toList) h) (show ¬ cOk.data.toList = cNo.data.toList by decide)
      · exact absurd h h6
end Go.Proofs.YtkmnepmnjpdpkaaGreatDoor
