/- Contracts of functions that the laws of this seat call. -/
import Derived.Test.YtkmnepmnjpdpkaaGreatDoorZC
import Derived.Test.YtkmnepmnjpdpkaaGreatDoorEvC
set_option linter.all false
namespace Go.Proofs.YtkmnepmnjpdpkaaGreatDoor
open Go Go.Ev Go.RowKit Go.Ev.Enc Go.Pl

def nmL : List (List UInt8) := [[115, 105, 122, 101], [118, 105, 101, 119], [112, 97, 114, 116], [102, 108, 105, 112], [102, 105, 108, 108], [99, 111, 112, 121], [108, 111, 97, 100], [102, 114, 101, 101]]
def nmK (w : List UInt8) : Nat → Int
  | 0 => -1
  | k + 1 => if nmL.getD k [] = w then (k : Int) else nmK w k
def nmI (w : List UInt8) : Int := nmK w 8
theorem nmI_lt (w : List UInt8) : -1 ≤ nmI w ∧ nmI w ≤ 7 := by
  unfold nmI nmK nmK nmK nmK nmK nmK nmK nmK nmK
  repeat' split
  all_goals omega
theorem nmI_get {w : List UInt8} (h : 0 ≤ nmI w) : w = nmL.getD (nmI w).toNat [] := by
  unfold nmI nmK nmK nmK nmK nmK nmK nmK nmK nmK at h ⊢
  repeat' split at h
  all_goals first
    | (subst_vars; simp_all; done)
    | (exact absurd h (by decide))
theorem nmI_nm {k : Int} (h : 0 ≤ k ∧ k ≤ 7) : nmI (nmL.getD k.toNat []) = k := by
  obtain ⟨m, rfl⟩ : ∃ m : Nat, k = m := ⟨k.toNat, by omega⟩
  have hm : m < 8 := by omega
  rw [Int.toNat_natCast]
  match m, hm with
  | 0, _ => decide
  | 1, _ => decide
  | 2, _ => decide
  | 3, _ => decide
  | 4, _ => decide
  | 5, _ => decide
  | 6, _ => decide
  | 7, _ => decide
theorem nm_no {k : Nat} (h : k < 8) {c : UInt8} (hc : c = 32 ∨ c = 10) : c ∉ nmL.getD k [] := by
  rcases hc with rfl | rfl
  all_goals
    match k, h with
    | 0, _ => decide
    | 1, _ => decide
    | 2, _ => decide
    | 3, _ => decide
    | 4, _ => decide
    | 5, _ => decide
    | 6, _ => decide
    | 7, _ => decide
def actB (a : Ac) : Bool := decide ((0 ≤ a.k ∧ a.k ≤ 7) ∧ a.n.length = nedF a.k) && a.n.all fun x => decide (-100 ≤ x ∧ x ≤ 100)
theorem actB_iff {a : Ac} : actB a = true ↔ actV a := by
  unfold actB actV actN
  simp only [Bool.and_eq_true, decide_eq_true_eq, List.all_eq_true]
def fmtL (a : Ac) : List UInt8 := nmL.getD a.k.toNat [] ++ a.n.flatMap fun x => 32 :: Lib.itoa x
theorem flat_itoa (l : List Int) : (l.flatMap fun x => 32 :: Lib.itoa x) = (l.map Lib.itoa).flatMap fun x => 32 :: x := by
  induction l with
  | nil => rfl
  | cons a t ih => simp only [List.flatMap_cons, List.map_cons, ih]
def parL (s : List UInt8) : Option Ac := match spl 32 s with
  | [] => none
  | w :: r => (wInts r).bind fun l => if actB ⟨nmI w, l⟩ = true then some ⟨nmI w, l⟩ else none
theorem parL_iff {s : List UInt8} {a : Ac} : parL s = some a ↔ actV a ∧ s = fmtL a := by
  constructor
  · intro h
    unfold parL at h
    split at h
    · cases h
    · rename_i w r hs
      simp only [Option.bind_eq_some_iff] at h
      obtain ⟨l, hl, h⟩ := h
      split at h
      case isFalse => cases h
      rename_i hv
      obtain rfl := Option.some.inj h
      refine ⟨actB_iff.1 hv, ?_⟩
      have hk := (actB_iff.1 hv).1.1
      obtain ⟨rfl, -⟩ := wInts_iff.1 hl
      have := spl_join 32 _ s (Nat.le_refl _) w _ hs
      unfold fmtL
      rw [flat_itoa]
      dsimp only at hk ⊢
      rw [← nmI_get hk.1, ← this]
  · rintro ⟨hv, rfl⟩
    obtain ⟨⟨hk, hn⟩, hx⟩ := hv
    have hs : spl 32 (fmtL a) = nmL.getD a.k.toNat [] :: a.n.map Lib.itoa := by
      unfold fmtL
      rw [flat_itoa]
      refine spl_of 32 _ _ (nm_no (by omega) (.inl rfl)) fun x hx => ?_
      obtain ⟨y, -, rfl⟩ := List.mem_map.1 hx
      exact itoa_no (.inl rfl)
    have hw : wInts (a.n.map Lib.itoa) = some a.n := wInts_iff.2 ⟨rfl, fun x h => by have := hx x h; omega⟩
    have hb : actB a = true := actB_iff.2 ⟨⟨hk, hn⟩, hx⟩
    unfold parL
    rw [hs]
    dsimp only
    rw [hw, Option.bind_some, nmI_nm hk]
    exact if_pos hb
def parR (s : List UInt8) : Ac × Bool := match parL s with
  | some a => (a, true)
  | none => (⟨0, []⟩, false)
def actsF : Nat → List UInt8 → List Ac
  | 0, _ => []
  | n + 1, s => if (Lib.cut s [10]).2.2 = true then (match parL (Lib.cut s [10]).1 with
    | some a => a :: actsF n (Lib.cut s [10]).2.1
    | none => []) else []
theorem actsF_miss {n : Nat} {s : List UInt8} (h : (10 : UInt8) ∉ s) : actsF n s = [] := by
  cases n with
  | zero => rfl
  | succ n => rw [actsF, cut_miss1 h, if_neg (by simp)]
theorem actsF_hit {n : Nat} {w t : List UInt8} (h : (10 : UInt8) ∉ w) : actsF (n + 1) (w ++ 10 :: t) = match parL w with
    | some a => a :: actsF n t
    | none => [] := by
  rw [actsF, cut_hit1 h, if_pos rfl]
theorem actsF_len : ∀ (n : Nat) (s : List UInt8), (actsF n s).length ≤ n
  | 0, _ => by simp [actsF]
  | n + 1, s => by
    rw [actsF]
    split
    · split
      · have := actsF_len n (Lib.cut s [10]).2.1
        simp; omega
      · simp
    · simp
theorem actsF_val : ∀ (n : Nat) (s : List UInt8), ∀ a ∈ actsF n s, actV a
  | 0, _, a, h => by simp [actsF] at h
  | n + 1, s, a, h => by
    rw [actsF] at h
    split at h
    · split at h
      · rename_i b hb
        rcases List.mem_cons.1 h with rfl | h
        · exact (parL_iff.1 hb).1
        · exact actsF_val n _ a h
      · simp at h
    · simp at h
def actsL : Nat → List (List UInt8) → List Ac
  | 0, _ => []
  | _ + 1, [] => []
  | _ + 1, [_] => []
  | n + 1, l :: m :: r => match parL l with
    | some a => a :: actsL n (m :: r)
    | none => []
theorem actsL_eq : ∀ (n : Nat) (s : List UInt8), actsL n (spl 10 s) = actsF n s
  | 0, s => by cases h : spl 10 s <;> simp [actsL, actsF]
  | n + 1, s => by
    rcases spl_or 10 s with hm | ⟨w, t, rfl, hw⟩
    · rw [actsF_miss hm, spl_miss 10 s hm]; rfl
    · rw [actsF_hit hw, spl_hit 10 w t hw]
      have ih := actsL_eq n t
      obtain ⟨m, r, hr⟩ := List.exists_cons_of_ne_nil (spl_ne 10 t)
      rw [hr] at ih ⊢
      rw [actsL]
      cases parL w with
      | none => rfl
      | some a => dsimp only; rw [ih]
def aftB (B : Bf) (l : List Ac) : Bf := l.foldl (fun B a => (appF B a).1) B
def bf0 : Bf := ⟨[], []⟩
theorem aftB_snoc (B : Bf) (l : List Ac) (a : Ac) : aftB B (l ++ [a]) = (appF (aftB B l) a).1 := by
  unfold aftB; rw [List.foldl_append]; rfl
theorem aft_ok : ∀ (l : List Ac) {B : Bf}, bufOK B = true → bufOK (aftB B l) = true
  | [], _, h => h
  | a :: l, B, h => by
    unfold aftB
    rw [List.foldl_cons]
    exact aft_ok l (app_ok h)
end Go.Proofs.YtkmnepmnjpdpkaaGreatDoor
