/- Contracts of functions that the laws of this seat call. -/
import Derived.Test.YtkmnepmnjpdpkaaDoorX4
set_option linter.all false
namespace Go.Proofs.YtkmnepmnjpdpkaaDoor
open Go Go.Ev Go.RowKit Go.Ev.Enc Go.Pl

structure Px where
  x : Ex
  a : Nat
  c : Nat
abbrev pxE (t : Px) : AV := .agg [.int .i64 t.x.p, .int .i64 t.x.v.b, .sl t.a t.x.v.sh.length 0 t.x.v.sh.length t.x.v.sh.length, .sl t.c t.x.v.st.length 0 t.x.v.st.length t.x.v.st.length, .bool t.x.o]
def pxH (M : List Blk) (xl : List Px) : Prop := ∀ t ∈ xl, M[t.a]? = some (stB t.x.v.sh) ∧ M[t.c]? = some (stB t.x.v.st)
def pxI (xl : List Px) : List Nat := xl.flatMap fun t => [t.a, t.c]
theorem mem_pxI {xl : List Px} {b : Nat} : b ∈ pxI xl ↔ ∃ t ∈ xl, b = t.a ∨ b = t.c := by simp [pxI]
def exH (M : List Blk) (be : AV) (xl : List Px) (js : List Nat) : Prop := (xl = [] ∧ be = .nilS ∧ js = []) ∨ ∃ j, js = [j] ∧ be = .sl j xl.length 0 xl.length xl.length ∧ M[j]? = some ⟨5, xl.map pxE⟩
structure HBx (M : List Blk) (i : Nat) (be : AV) (js : List Nat) (xl : List Px) (B : Bf) : Prop where
  c : M[i]? = some (stB B.c)
  e : xl.map Px.x = B.e
  x : exH M be xl js
  h : pxH M xl
  n : (i :: (js ++ pxI xl)).Nodup
def HB (lo hi : Nat) (M : List Blk) (v : AV) (B : Bf) : Prop := ∃ i be js xl, v = .agg [.sl i B.c.length 0 B.c.length B.c.length, be] ∧ HBx M i be js xl B ∧ ∀ b ∈ i :: (js ++ pxI xl), lo ≤ b ∧ b < hi
section
variable {M M' : List Blk} {i : Nat} {be : AV} {js : List Nat} {xl : List Px} {B : Bf}
theorem HBx.lt (h : HBx M i be js xl B) : ∀ b ∈ i :: (js ++ pxI xl), b < M.length := by
  intro b hb
  rcases List.mem_cons.1 hb with rfl | hb
  · exact (List.getElem?_eq_some_iff.1 h.c).1
  rcases List.mem_append.1 hb with hb | hb
  · rcases h.x with ⟨-, -, rfl⟩ | ⟨j, rfl, -, hj⟩
    · cases hb
    · rw [List.mem_singleton.1 hb]; exact (List.getElem?_eq_some_iff.1 hj).1
  · obtain ⟨t, ht, rfl | rfl⟩ := mem_pxI.1 hb
    · exact (List.getElem?_eq_some_iff.1 (h.h t ht).1).1
    · exact (List.getElem?_eq_some_iff.1 (h.h t ht).2).1
theorem HBx.same (h : HBx M i be js xl B) (hM : ∀ b ∈ i :: (js ++ pxI xl), M'[b]? = M[b]?) : HBx M' i be js xl B := by
  refine ⟨(hM i (by simp)).trans h.c, h.e, ?_, fun t ht => ⟨(hM _ ?_).trans (h.h t ht).1, (hM _ ?_).trans (h.h t ht).2⟩, h.n⟩
  · rcases h.x with h | ⟨j, rfl, h1, h2⟩
    · exact .inl h
    · exact .inr ⟨j, rfl, h1, (hM j (by simp)).trans h2⟩
  · simp only [List.mem_cons, List.mem_append, mem_pxI]; exact .inr (.inr ⟨t, ht, .inl rfl⟩)
  · simp only [List.mem_cons, List.mem_append, mem_pxI]; exact .inr (.inr ⟨t, ht, .inr rfl⟩)
theorem HBx.ext (h : HBx M i be js xl B) (Y : List Blk) : HBx (M ++ Y) i be js xl B := h.same fun b hb => List.getElem?_append_left (h.lt b hb)
theorem exH.exp (hx : exH M be xl js) (hh : pxH M xl) : expC 0 M be = .ds 0 (exL 0 (xl.map Px.x)) := by
  rcases hx with ⟨rfl, rfl, -⟩ | ⟨j, -, rfl, hj⟩
  · rfl
  · rw [ec_sl, ee_sl, hj]
    simp only [expS, List.length_map, Nat.zero_add, Nat.le_refl, and_self, if_true, List.drop_zero]
    rw [List.take_of_length_le (by simp)]
    congr 1
    rw [exL, List.map_map, List.map_map]
    apply List.map_congr_left
    intro t ht
    obtain ⟨h1, h2⟩ := hh t ht
    simp only [Function.comp_def, expE, List.map_cons, List.map_nil, stepC, h1, h2, List.length_map, Nat.zero_add, Nat.le_refl, and_self, if_true, List.drop_zero]
    rw [List.take_of_length_le (by simp), List.take_of_length_le (by simp)]
    simp [ints, Function.comp_def, expE, stepC]
theorem HBx.exp (h : HBx M i be js xl B) : expC 0 M be = .ds 0 (exL 0 B.e) := by rw [h.x.exp h.h, h.e]
end
theorem HB.same {lo hi : Nat} {M M' : List Blk} {v : AV} {B : Bf} (h : HB lo hi M v B) (hM : ∀ b, lo ≤ b → b < hi → M'[b]? = M[b]?) : HB lo hi M' v B := by
  obtain ⟨i, be, js, xl, h1, h2, h3⟩ := h
  exact ⟨i, be, js, xl, h1, h2.same fun b hb => hM b (h3 b hb).1 (h3 b hb).2, h3⟩
theorem HB.ext {lo hi : Nat} {M : List Blk} {v : AV} {B : Bf} (h : HB lo hi M v B) (Y : List Blk) : HB lo hi (M ++ Y) v B := by
  obtain ⟨i, be, js, xl, h1, h2, h3⟩ := h
  exact ⟨i, be, js, xl, h1, h2.ext Y, h3⟩
theorem HB.mono {lo hi lo' hi' : Nat} {M : List Blk} {v : AV} {B : Bf} (h : HB lo hi M v B) (h1 : lo' ≤ lo) (h2 : hi ≤ hi') : HB lo' hi' M v B := by
  obtain ⟨i, be, js, xl, a1, a2, a3⟩ := h
  exact ⟨i, be, js, xl, a1, a2, fun b hb => ⟨by have := a3 b hb; omega, by have := a3 b hb; omega⟩⟩
theorem nod_add (n : Nat) {l : List Nat} (h : l.Nodup) : (l.map (n + ·)).Nodup := List.Pairwise.map _ (fun a b h => by omega) h
theorem HB.frame {hi : Nat} {N L : List Blk} {v : AV} {B : Bf} (h : HB 0 hi N v B) : HB L.length (L.length + hi) (L ++ N.map (ownB L.length)) (ownV L.length v) B := by
  obtain ⟨i, be, js, xl, rfl, h2, h3⟩ := h
  let sh : Px → Px := fun t => ⟨t.x, L.length + t.a, L.length + t.c⟩
  have hI : (L.length + i) :: ((js.map (L.length + ·)) ++ pxI (xl.map sh)) = (i :: (js ++ pxI xl)).map (L.length + ·) := by
    simp [pxI, sh, List.map_flatMap, List.flatMap_map]
  refine ⟨L.length + i, ownC L.length be, js.map (L.length + ·), xl.map sh, rfl, ⟨get_frs h2.c, by rw [List.map_map]; exact h2.e, ?_, fun t ht => ?_, by rw [hI]; exact nod_add _ h2.n⟩, fun b hb => ?_⟩
  · rcases h2.x with ⟨rfl, rfl, rfl⟩ | ⟨j, rfl, rfl, hj⟩
    · exact .inl ⟨rfl, rfl, rfl⟩
    · refine .inr ⟨L.length + j, rfl, by rw [List.length_map]; rfl, ?_⟩
      rw [get_fr hj]; unfold ownB; rw [List.map_map, List.map_map]; rfl
  · obtain ⟨u, hu, rfl⟩ := List.mem_map.1 ht
    exact ⟨get_frs (h2.h u hu).1, get_frs (h2.h u hu).2⟩
  · rw [hI] at hb
    obtain ⟨q, hq, rfl⟩ := List.mem_map.1 hb
    have := h3 q hq
    omega
def HO (lo hi : Nat) (M : List Blk) (v : AV) (o : Option Bf) : Prop := match o with
  | some B => ∃ x, v = .tup [x, .bool true] ∧ HB lo hi M x B
  | none => v = .tup [.agg [.nilS, .nilS], .bool false]
theorem HO.frame {hi : Nat} {N L : List Blk} {v : AV} {o : Option Bf} (h : HO 0 hi N v o) : HO L.length (L.length + hi) (L ++ N.map (ownB L.length)) (ownV L.length v) o := by
  cases o with
  | none => cases h; rfl
  | some B =>
    obtain ⟨x, rfl, hx⟩ := h
    have := HB.frame (L := L) hx
    obtain ⟨i, be, js, xl, rfl, -⟩ := hx
    exact ⟨_, rfl, this⟩
end Go.Proofs.YtkmnepmnjpdpkaaDoor
