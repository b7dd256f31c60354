/- Sorted lists, slices that a library function writes, arguments as data, and what a law leaves. -/
import Derived.Lib.RowBridge
import Derived.Test.YtbibnkgcegbmiaaEvB
import Derived.Sort.Row
import Derived.Sort.Grow
import Derived.Shelf.Slices.CompactI
import Derived.WalkKit
import Derived.ProofKit
import Derived.OpenShut
import Derived.OpenVars
import Derived.JoinedCond
set_option linter.all false
namespace Go.Pl
open Go.Lib

/-- lists that ascend are told by their elements -/
theorem asc_ext : ∀ {a b : List Int}, a.Pairwise (· < ·) → b.Pairwise (· < ·) → (∀ x, x ∈ a ↔ x ∈ b) → a = b
  | [], [], _, _, _ => rfl
  | [], y :: b, _, _, h => by have := (h y).2 (by simp); simp at this
  | x :: a, [], _, _, h => by have := (h x).1 (by simp); simp at this
  | x :: a, y :: b, ha, hb, h => by
    rw [List.pairwise_cons] at ha hb
    have hxy : x = y := by
      have h1 := (h x).1 (by simp)
      have h2 := (h y).2 (by simp)
      rcases List.mem_cons.1 h1 with e | e
      · exact e
      · rcases List.mem_cons.1 h2 with e' | e'
        · exact e'.symm
        · have := ha.1 y e'; have := hb.1 x e; omega
    subst hxy
    have : a = b := asc_ext ha.2 hb.2 fun z => by
      have hz := h z
      simp only [List.mem_cons] at hz
      constructor
      · intro hm
        rcases hz.1 (Or.inr hm) with e | e
        · subst e; have := ha.1 z hm; omega
        · exact e
      · intro hm
        rcases hz.2 (Or.inr hm) with e | e
        · subst e; have := hb.1 z hm; omega
        · exact e
    rw [this]

theorem compact_asc {zs : List Int} (hs : zs.Pairwise (· ≤ ·)) : ∀ m, m ≤ zs.length →
    (compactUpTo zs.toArray m).Pairwise (· < ·) ∧ ∀ x, x ∈ compactUpTo zs.toArray m ↔ x ∈ zs.take m
  | 0, _ => by simp [compactUpTo]
  | m + 1, hm => by
    obtain ⟨h1, h2⟩ := compact_asc hs m (by omega)
    have hd : ∀ i, i < zs.length → zs.toArray[i]! = zs.getD i 0 := fun i hi => by simp [hi]
    have hle : ∀ i j, i ≤ j → j < zs.length → zs.getD i 0 ≤ zs.getD j 0 := fun i j hij hj => by
      rcases Nat.lt_or_ge i j with h | h
      · have := List.pairwise_iff_getElem.1 hs i j (by omega) hj h
        simpa [show i < zs.length by omega, hj] using this
      · have : i = j := by omega
        subst this; exact Int.le_refl _
    have hmem : ∀ x, x ∈ zs.take (m + 1) ↔ x ∈ zs.take m ∨ x = zs.getD m 0 := fun x => by
      rw [List.take_succ_eq_append_getElem (by omega), List.mem_append]
      simp [show m < zs.length by omega]
    have htk : ∀ x, x ∈ zs.take m → ∃ i, i < m ∧ x = zs.getD i 0 := fun x hx => by
      obtain ⟨i, hi, rfl⟩ := List.mem_iff_getElem.1 hx
      have hi' : i < m ∧ i < zs.length := by rw [List.length_take] at hi; omega
      exact ⟨i, hi'.1, by simp [hi'.2]⟩
    rw [compactUpTo_succ]
    by_cases hk : keeps zs.toArray m = true
    · rw [if_pos hk, hd m (by omega)]
      refine ⟨List.pairwise_append.2 ⟨h1, by simp, fun a ha b hb => ?_⟩, fun x => ?_⟩
      · have hb' : b = zs.getD m 0 := by simpa using hb
        subst hb'
        obtain ⟨i, hi, rfl⟩ := htk a ((h2 a).1 ha)
        have l1 := hle i (m - 1) (by omega) (by omega)
        have l2 := hle (m - 1) m (by omega) (by omega)
        unfold keeps at hk
        rw [decide_eq_true_eq, hd m (by omega), hd (m - 1) (by omega)] at hk
        rcases hk with h | h
        · omega
        · omega
      · rw [List.mem_append, h2 x, hmem x]; simp
    · rw [if_neg hk]
      refine ⟨by simpa using h1, fun x => ?_⟩
      rw [List.append_nil, h2 x, hmem x]
      constructor
      · exact Or.inl
      · rintro (h | rfl)
        · exact h
        · unfold keeps at hk
          rw [decide_eq_true_eq, hd m (by omega), hd (m - 1) (by omega)] at hk
          have hm0 : m ≠ 0 := fun h => hk (Or.inl h)
          have he : zs.getD m 0 = zs.getD (m - 1) 0 := Classical.byContradiction fun h => hk (Or.inr h)
          rw [he, List.mem_iff_getElem]
          exact ⟨m - 1, by simp; omega, by simp [show m - 1 < zs.length by omega]⟩

/-- sorted, each once -/
def srt (l : List Int) : List Int := compact (l.mergeSort fun x y => decide (x ≤ y))
theorem ms_pw (l : List Int) : (l.mergeSort fun x y => decide (x ≤ y)).Pairwise (· ≤ ·) := by
  have := List.pairwise_mergeSort (le := fun x y : Int => decide (x ≤ y)) (fun a b c h1 h2 => by simp at *; omega) (fun a b => by simp; omega) l
  exact this.imp fun h => by simpa using h
theorem srt_asc (l : List Int) : (srt l).Pairwise (· < ·) := by
  have := (compact_asc (ms_pw l) _ (Nat.le_refl _)).1
  exact this
theorem srt_mem (l : List Int) (x : Int) : x ∈ srt l ↔ x ∈ l := by
  have := (compact_asc (ms_pw l) _ (Nat.le_refl _)).2 x
  rw [List.take_length, List.mem_mergeSort] at this
  exact this
theorem srt_eq {l a : List Int} (ha : a.Pairwise (· < ·)) (h : ∀ x, x ∈ a ↔ x ∈ l) : srt l = a :=
  asc_ext (srt_asc l) ha fun x => by rw [srt_mem, h]
end Go.Pl
namespace Go.Ev
open Go Go.RowKit Go.Sort

variable {P : Program}

abbrev iV : Int → Value := Value.int .i64

theorem put_heap (w : World) (n blk off : Nat) (d : Array Int) (os : Array Obj) (y : Nat) (hy : y < w.heap.size) (hne : y ≠ blk) :
    (grow (putRow iV (Sort.ahead w n) blk off d) os).heap[y]? = w.heap[y]? := by
  simp only [grow, putRow, mapBlock, Sort.ahead]
  rw [Array.getElem?_append_left (by simpa using hy), Array.getElem?_modify, if_neg (fun h => hne h.symm)]
theorem put_blk (w : World) (n blk off : Nat) (d : Array Int) (os : Array Obj) {c : Array Value} {ty : TypeId} {fr : Nat × Nat} (h : w.heap[blk]? = some (.cells c ty fr)) :
    (grow (putRow iV (Sort.ahead w n) blk off d) os).heap[blk]? = some (.cells (putCells iV off d c) ty fr) := by
  have hlt := (Array.getElem?_eq_some_iff.1 h).1
  simp only [grow, putRow, mapBlock, Sort.ahead]
  rw [Array.getElem?_append_left (by simpa using hlt), Array.getElem?_modify, if_pos rfl, h]
  rfl

theorem put_rel {V : Vw} {L : List Blk} {w : World} (hr : Rel V L w) {b : Nat} {x : Nat × Nat × Nat} {q q' : List Int} (hk : L[b]? = some ⟨1, q.map fun n => .int .i64 n⟩) (hx : V.m[b]? = some x)
    (hlen : q'.length = q.length) (n : Nat) (os : Array Obj) :
    Rel V (L.set b ⟨1, q'.map fun n => .int .i64 n⟩) (grow (putRow iV (Sort.ahead w n) x.1 x.2.1 q'.toArray) os) ∧
    Step V w V (grow (putRow iV (Sort.ahead w n) x.1 x.2.1 q'.toArray) os) ∧ rfExt (rfOf V.m L) (rfOf V.m (L.set b ⟨1, q'.map fun n => .int .i64 n⟩)) := by
  obtain ⟨c, ty, a1, a2, a3, a4, a5⟩ := hr.blk b _ x hk hx
  have hm : V.m.set b x = V.m := by
    refine List.ext_getElem? fun i => ?_
    rw [List.getElem?_set]
    split
    · rename_i h; subst h
      split
      · exact hx.symm
      · rw [List.getElem?_eq_none (by omega)]
    · rfl
  have hV : ({ V with m := V.m.set b x } : Vw) = V := by rw [hm]
  simp only [List.length_map, Nat.mul_one] at a3
  have := hr.upd hk hx (k' := ⟨1, q'.map fun n => .int .i64 n⟩) (x' := x) (w' := grow (putRow iV (Sort.ahead w n) x.1 x.2.1 q'.toArray) os)
    (fun y hy hne => put_heap _ _ _ _ _ _ y hy hne) (by simp [grow, putRow, mapBlock, Sort.ahead]) rfl rfl rfl (.inl rfl) (.inr ⟨by simp [hlen], rfl, rfl⟩)
    _ ty (put_blk w n x.1 x.2.1 q'.toArray os a1) (by simpa [putCells] using a2) (by simp [hlen]; omega)
    (fun i hi => by
      simp only [List.length_map] at hi
      simp [hi, AV.cells])
    (fun i j hi hj => by
      simp only [List.length_map] at hi
      have hj0 : j = 0 := by simp only at hj; omega
      subst hj0
      have e1 : ((q'.map fun n => AV.int .i64 n).getD i .any).cells.getD 0 .any = .int .i64 (q'[i]) := by simp [hi, AV.cells]
      have e2 : (putCells iV x.2.1 q'.toArray c).getD (x.2.1 + i * 1 + 0) undef = .int .i64 (q'[i]) := by
        have hin : x.2.1 + i < c.size := by omega
        rw [Array.getD_eq_getD_getElem?, putCells, Array.getElem?_mapIdx]
        simp only [Nat.mul_one, Nat.add_zero]
        rw [Array.getElem?_eq_getElem hin]
        simp [hi, iV]
      rw [e1, e2]
      exact .int _ _)
  rw [hV, hm] at this
  exact this

theorem Rel.holds {V : Vw} {L : List Blk} {w : World} (hr : Rel V L w) {b : Nat} {x : Nat × Nat × Nat} {q : List Int} (hk : L[b]? = some ⟨1, q.map fun n => .int .i64 n⟩) (hx : V.m[b]? = some x) :
    Holds iV w x.1 x.2.1 q.toArray ∧ x.1 < w.heap.size := by
  obtain ⟨c, ty, a1, a2, a3, a4, a5⟩ := hr.blk b _ x hk hx
  simp only [List.length_map, Nat.mul_one] at a3
  refine ⟨fun j hj => ?_, hr.blt hx⟩
  have hj' : j < q.length := by simpa using hj
  constructor
  · rw [cell_of_block a1 (by omega)]
    have := a5 j 0 (by simpa using hj') (by simp)
    have e1 : ((q.map fun n => AV.int .i64 n).getD j .any).cells.getD 0 .any = .int .i64 (q[j]) := by simp [hj', AV.cells]
    rw [e1] at this
    have e2 := this.int_inv
    simp only [Nat.mul_one, Nat.add_zero] at e2
    rw [e2]
    simp [hj', iV]
  · simp [World.frozen?, a1]

/-- **slices.Sort, OF A SLICE OF ONE's OWN** -/
theorem ispec_sort {f : FuncId}
    (H : ∀ (blk off cap : Nat) (zs : List Int) (w : World), Holds (Value.int .i64) w blk off zs.toArray → blk < w.heap.size → zs.length < 4611686018427387904 →
      Calls P f #[.slice (some ⟨blk, off, none⟩) zs.length cap] w fun e w' => e = .returned (.tuple #[]) ∧ ∃ n os, w' = grow (putRow (Value.int .i64) (Sort.ahead w n) blk off (zs.mergeSort fun x y => decide (x ≤ y)).toArray) os)
    (H0 : ∀ (p : Option Addr) (cap : Nat) (w : World), Calls P f #[.slice p 0 cap] w fun e w' => e = .returned (.tuple #[]) ∧ w' = w)
    {b n : Nat} {q : List Int} {L : List Blk} (hL : L[b]? = some ⟨1, q.map fun n => .int .i64 n⟩) (hn : q.length = n) (hsz : n < 4611686018427387904) :
    ISpec P f [.sl b n 0 n n] L (fun r L' => r = .tup [] ∧ L' = L.set b ⟨1, (q.mergeSort fun x y => decide (x ≤ y)).map fun n => .int .i64 n⟩) := by
  intro V w vs hr hs hx
  have h0 := hx 0 (by simp)
  have hs : vs.size = 1 := hs
  obtain ⟨x, hxm, _⟩ := hr.entry hL
  obtain ⟨a, cap', hv, c1, c2, c3, c4, c5⟩ := h0.sl_inv hL hxm (by simpa using hn)
  have hvs : vs = #[.slice a n cap'] := by
    apply Array.ext
    · simpa using hs
    · intro i hi1 hi2
      have : i = 0 := by simp at hi2; omega
      subst this
      simpa [Array.getD_eq_getD_getElem?, hi1] using hv
  subst hvs
  by_cases h00 : n = 0
  · subst h00
    refine (H0 a cap' w).mono ?_
    rintro e w' ⟨rfl, rfl⟩
    have hq : q = [] := List.eq_nil_of_length_eq_zero hn
    subst hq
    refine ⟨_, _, _, V, rfl, ⟨rfl, rfl⟩, ?_, .refl _ _, ?_, .tup _ _ rfl (by simp)⟩
    · have : L.set b ⟨1, List.map (fun n => AV.int .i64 n) (List.mergeSort ([] : List Int) fun x y => decide (x ≤ y))⟩ = L := by
        refine List.ext_getElem? fun i => ?_
        rw [List.getElem?_set]
        split
        · rename_i h; subst h
          split
          · rw [hL, List.mergeSort_nil]
          · rw [List.getElem?_eq_none (by omega)]
        · rfl
      rw [this]; exact hr
    · have : L.set b ⟨1, List.map (fun n => AV.int .i64 n) (List.mergeSort ([] : List Int) fun x y => decide (x ≤ y))⟩ = L := by
        refine List.ext_getElem? fun i => ?_
        rw [List.getElem?_set]
        split
        · rename_i h; subst h
          split
          · rw [hL, List.mergeSort_nil]
          · rw [List.getElem?_eq_none (by omega)]
        · rfl
      rw [this]; exact .refl _
  · have ha := c3 (by omega)
    simp only [Nat.zero_mul, Nat.add_zero] at ha
    subst ha
    obtain ⟨hh, hb⟩ := hr.holds hL hxm
    have := H x.1 x.2.1 cap' q w hh hb (by omega)
    rw [hn] at this
    refine this.mono ?_
    rintro e w' ⟨rfl, m, os, rfl⟩
    obtain ⟨g1, g2, g3⟩ := put_rel hr hL hxm (q' := q.mergeSort fun x y => decide (x ≤ y)) (List.length_mergeSort _) m os
    exact ⟨_, _, _, V, rfl, ⟨rfl, rfl⟩, g1, g2, g3, .tup _ _ rfl (by simp)⟩

/-- **slices.Compact, OF A SLICE OF ONE's OWN** -/
theorem ispec_compact {f : FuncId}
    (H : ∀ (blk off cap : Nat) (zs : List Int) (w : World), Holds (Value.int .i64) w blk off zs.toArray → zs.length ≤ 9223372036854775807 → zs.length ≤ cap →
      Calls P f #[.slice (some ⟨blk, off, none⟩) zs.length cap] w fun e w' => e = .returned (.slice (some ⟨blk, off, none⟩) (Lib.compact zs).length cap) ∧ ∃ q, w' = putRow (Value.int .i64) (Sort.ahead w q) blk off (Lib.compact zs ++ List.replicate (zs.length - (Lib.compact zs).length) 0).toArray)
    (H0 : ∀ (a : Option Addr) (cap : Nat) (w : World), Calls P f #[.slice a 0 cap] w fun e w' => e = .returned (.slice a 0 cap) ∧ w' = w)
    (hc : ∀ zs : List Int, (Lib.compact zs).length ≤ zs.length)
    {b n : Nat} {q : List Int} {L : List Blk} (hL : L[b]? = some ⟨1, q.map fun n => .int .i64 n⟩) (hn : q.length = n) (hsz : n ≤ 9223372036854775807) :
    ISpec P f [.sl b n 0 n n] L (fun r L' => r = .sl b n 0 (Lib.compact q).length n ∧ L' = L.set b ⟨1, (Lib.compact q ++ List.replicate (q.length - (Lib.compact q).length) 0).map fun n => .int .i64 n⟩) := by
  intro V w vs hr hs hx
  have h0 := hx 0 (by simp)
  have hs : vs.size = 1 := hs
  obtain ⟨x, hxm, hxe⟩ := hr.entry hL
  obtain ⟨a, cap', hv, c1, c2, c3, c4, c5⟩ := h0.sl_inv hL hxm (by simpa using hn)
  have hvs : vs = #[.slice a n cap'] := by
    apply Array.ext
    · simpa using hs
    · intro i hi1 hi2
      have : i = 0 := by simp at hi2; omega
      subst this
      simpa [Array.getD_eq_getD_getElem?, hi1] using hv
  subst hvs
  by_cases h00 : n = 0
  · subst h00
    refine (H0 a cap' w).mono ?_
    rintro e w' ⟨rfl, rfl⟩
    have hq : q = [] := List.eq_nil_of_length_eq_zero hn
    subst hq
    have h1 : Lib.compact ([] : List Int) = [] := List.eq_nil_of_length_eq_zero (by have := hc []; simpa using this)
    have : L.set b ⟨1, List.map (fun n => AV.int .i64 n) (Lib.compact ([] : List Int) ++ List.replicate (([] : List Int).length - (Lib.compact ([] : List Int)).length) 0)⟩ = L := by
      rw [h1]
      refine List.ext_getElem? fun i => ?_
      rw [List.getElem?_set]
      split
      · rename_i h; subst h
        split
        · rw [hL]; rfl
        · rw [List.getElem?_eq_none (by omega)]
      · rfl
    refine ⟨_, _, _, V, rfl, ⟨rfl, rfl⟩, ?_, .refl _ _, ?_, ?_⟩
    · rw [this]; exact hr
    · rw [this]; exact .refl _
    · rw [this, h1]; exact h0
  · have ha := c3 (by omega)
    simp only [Nat.zero_mul, Nat.add_zero] at ha
    subst ha
    obtain ⟨hh, hb⟩ := hr.holds hL hxm
    subst hn
    have := H x.1 x.2.1 cap' q w hh (by omega) (by omega)
    refine this.mono ?_
    rintro e w' ⟨rfl, m, rfl⟩
    have hl := hc q
    have hlen : (Lib.compact q ++ List.replicate (q.length - (Lib.compact q).length) 0).length = q.length := by simp; omega
    obtain ⟨g1, g2, g3⟩ := put_rel hr hL hxm (q' := Lib.compact q ++ List.replicate (q.length - (Lib.compact q).length) 0) hlen m #[]
    rw [grow_empty] at g1 g2
    refine ⟨_, _, _, V, rfl, ⟨rfl, rfl⟩, g1, g2, g3, ?_⟩
    obtain ⟨k', hk', hk2⟩ : ∃ e', rfOf V.m (L.set b ⟨1, (Lib.compact q ++ List.replicate (q.length - (Lib.compact q).length) 0).map fun n => .int .i64 n⟩) b = some e' ∧ e' = ⟨q.length, x.1, x.2.1, x.2.2, 1⟩ := by
      refine ⟨_, ?_, rfl⟩
      have hbl : b < L.length := (List.getElem?_eq_some_iff.1 hL).1
      simp only [rfOf, List.getElem?_set_self hbl, hxm, List.length_map, hlen]
    subst hk2
    refine .sl b _ 0 (Lib.compact q).length _ _ _ rfl hk' (Nat.le_refl _) fun _ => ⟨_, cap', rfl, by omega, c2, fun _ => by simp, ?_, by omega⟩
    simpa using c4
end Go.Ev
namespace Go.Ev
open Go Go.RowKit

theorem evApp_z0 {L : List Blk} {by' : Nat} {r : List Int} (h1 : r.length * by' ≤ 140737488355328) (h2 : r.length ≤ 9223372036854775807) :
    evApp (⟨1, []⟩ :: L) (.sl 0 0 0 0 0) (r.map fun n => .int .i64 n) 1 by' = some (.sl 0 r.length 0 r.length r.length, ⟨1, r.map fun n => .int .i64 n⟩ :: L) := by
  have := evApp_s0 (L := L) (n := 0) (by' := by') (q := []) (r := r) rfl (by rw [Nat.zero_add]; exact h1) (by omega)
  simpa using this
theorem evApp_z1 {B0 : Blk} {L : List Blk} {by' : Nat} {r : List Int} (h1 : r.length * by' ≤ 140737488355328) (h2 : r.length ≤ 9223372036854775807) :
    evApp (B0 :: ⟨1, []⟩ :: L) (.sl 1 0 0 0 0) (r.map fun n => .int .i64 n) 1 by' = some (.sl 1 r.length 0 r.length r.length, B0 :: ⟨1, r.map fun n => .int .i64 n⟩ :: L) := by
  have := evApp_s1 (B0 := B0) (L := L) (n := 0) (by' := by') (q := []) (r := r) rfl (by rw [Nat.zero_add]; exact h1) (by omega)
  simpa using this
theorem evApp_z2 {B0 B1 : Blk} {L : List Blk} {by' : Nat} {r : List Int} (h1 : r.length * by' ≤ 140737488355328) (h2 : r.length ≤ 9223372036854775807) :
    evApp (B0 :: B1 :: ⟨1, []⟩ :: L) (.sl 2 0 0 0 0) (r.map fun n => .int .i64 n) 1 by' = some (.sl 2 r.length 0 r.length r.length, B0 :: B1 :: ⟨1, r.map fun n => .int .i64 n⟩ :: L) := by
  have := evApp_s2 (B0 := B0) (B1 := B1) (L := L) (n := 0) (by' := by') (q := []) (r := r) rfl (by rw [Nat.zero_add]; exact h1) (by omega)
  simpa using this
theorem evApp_z3 {B0 B1 B2 : Blk} {L : List Blk} {by' : Nat} {r : List Int} (h1 : r.length * by' ≤ 140737488355328) (h2 : r.length ≤ 9223372036854775807) :
    evApp (B0 :: B1 :: B2 :: ⟨1, []⟩ :: L) (.sl 3 0 0 0 0) (r.map fun n => .int .i64 n) 1 by' = some (.sl 3 r.length 0 r.length r.length, B0 :: B1 :: B2 :: ⟨1, r.map fun n => .int .i64 n⟩ :: L) := by
  have := evApp_s3 (B0 := B0) (B1 := B1) (B2 := B2) (L := L) (n := 0) (by' := by') (q := []) (r := r) rfl (by rw [Nat.zero_add]; exact h1) (by omega)
  simpa using this
end Go.Ev
namespace Go.Ev
open Go Go.RowKit Go.Ev.Enc

/-- the relation of what came in: all that lies in the heap, none of it ours -/
abbrev RIn (w : World) : AV → Value → Prop := R (fun b => b < w.heap.size) (fun _ => False) (fun _ => none) w
def RCells (w : World) (x : AV) (cs : List Value) : Prop := x.cells.length = cs.length ∧ ∀ j, j < cs.length → RIn w (x.cells.getD j .any) (cs.getD j undef)

/-- what a type reads as -/
def Opens (P : Program) (t : TypeId) {α : Type} [Enc α] (S : α → Prop) : Prop :=
  ∀ (H : Type) (enc : TypeId × Value → H) (w : World) (base : Nat) (sp : Nat → Bool) (held : Bool) (fuel : Nat) (cs : List Value) (x : DataW H × List MemPlace),
    DataW.trod enc P w base sp held fuel t cs = some x → ∃ a : α, S a ∧ RCells w (Enc.enc 0 a) cs

theorem wf_i64 {n : Int} (h : (Lit.int .i64 n).wf = true) : -9223372036854775808 ≤ n ∧ n ≤ 9223372036854775807 := by
  simpa [Lit.wf, IntKind.min, IntKind.max, IntKind.signed, IntKind.bits] using h
theorem wf_u8 {n : Int} (h : (Lit.int .u8 n).wf = true) : 0 ≤ n ∧ n ≤ 255 := by
  simpa [Lit.wf, IntKind.min, IntKind.max, IntKind.signed, IntKind.bits] using h

def i64B (n : Int) : Prop := -9223372036854775808 ≤ n ∧ n ≤ 9223372036854775807
theorem opens_int {P : Program} {t : TypeId} (ht : P.underlying t = some (.int .i64)) : Opens P t (α := Int) i64B := by
  intro H enc w base sp held fuel cs x h
  obtain ⟨n, rfl, _, hw⟩ := DataW.trod_int ht h
  refine ⟨n, wf_i64 hw, rfl, fun j hj => ?_⟩
  have : j = 0 := by simp at hj; omega
  subst this
  exact .int _ _
theorem opens_u8 {P : Program} {t : TypeId} (ht : P.underlying t = some (.int .u8)) : Opens P t (α := UInt8) (fun _ => True) := by
  intro H enc w base sp held fuel cs x h
  obtain ⟨n, rfl, _, hw⟩ := DataW.trod_int ht h
  have hb := wf_u8 hw
  refine ⟨UInt8.ofNat n.toNat, trivial, rfl, fun j hj => ?_⟩
  have : j = 0 := by simp at hj; omega
  subst this
  have e : ((UInt8.ofNat n.toNat).toNat : Int) = n := by simp; omega
  show R _ _ _ w (.int .u8 ((UInt8.ofNat n.toNat).toNat : Int)) (.int .u8 n)
  rw [e]
  exact .int _ _
theorem opens_bool {P : Program} {t : TypeId} (ht : P.underlying t = some .bool) : Opens P t (α := Bool) (fun _ => True) := by
  intro H enc w base sp held fuel cs x h
  obtain ⟨b, rfl, _⟩ := DataW.trod_bool ht h
  refine ⟨b, trivial, rfl, fun j hj => ?_⟩
  have : j = 0 := by simp at hj; omega
  subst this
  exact .bool _

theorem cells?_all {w : World} {base : Nat} {a : Addr} {n : Nat} {cs : List Value} (h : w.cells? base a n = some cs) : cs.length = n ∧ ∀ i, i < n → w.cell? (a.add i) = some (cs.getD i undef) := by
  unfold World.cells? at h
  split at h
  · have hl := mapM_some_length h
    rw [List.length_range] at hl
    refine ⟨hl, fun i hi => ?_⟩
    have := mapM_some_get h i i (by rw [List.getElem?_range hi])
    rw [this, List.getElem?_eq_getElem (by omega)]
    simp [hl, hi]
  · simp at h
theorem cell_spot {w : World} {a : Addr} {i : Nat} {v : Value} (h : w.cell? (a.add i) = some v) : (i = 0 → a.spot = none) ∧ a.block < w.heap.size ∧ w.cell? ⟨a.block, a.off + i, none⟩ = some v := by
  obtain ⟨b, o, s⟩ := a
  have hb : b < w.heap.size := by
    unfold World.cell? at h
    have e : ((⟨b, o, s⟩ : Addr).add i).block = b := by unfold Addr.add; split <;> rfl
    rw [e] at h
    cases hh : w.heap[b]? with
    | none => simp [hh] at h
    | some o => exact (Array.getElem?_eq_some_iff.1 hh).1
  by_cases hi : i = 0
  · subst hi
    have e : (⟨b, o, s⟩ : Addr).add 0 = ⟨b, o, s⟩ := by simp [Addr.add]
    rw [e] at h
    cases s with
    | none => exact ⟨fun _ => rfl, hb, h⟩
    | some s =>
      exfalso
      unfold World.cell? at h
      split at h
      · simp at h
      · simp at h
  · refine ⟨fun h => absurd h hi, hb, ?_⟩
    simpa [Addr.add, hi] using h

/-- lists -/
def allS {α : Type} (S : α → Prop) (l : List α) : Prop := l.length ≤ 9223372036854775807 ∧ ∀ x ∈ l, S x
theorem opens_list {P : Program} {t e : TypeId} {α : Type} [Enc α] {S : α → Prop} (ht : P.underlying t = some (.slice e)) (k : Nat) (hk : P.cellsOf e = k) (h0 : 0 < k) (he : Opens P e S) :
    Opens P t (α := List α) (allS S) := by
  intro H enc w base sp held fuel cs x h
  rcases DataW.trod_slice ht h with ⟨rfl, -⟩ | ⟨a, len, cap, elems, rest, n, _, rfl, _, hb, hl, hm, hlen, hel, _, _⟩
  · refine ⟨[], ⟨by simp, by simp⟩, rfl, fun j hj => ?_⟩
    have : j = 0 := by simp at hj; omega
    subst this
    exact .ds0 _ _ _ (by omega)
  · have each : ∀ i, i < len → ∃ (y : α) (ec : List Value), S y ∧ RCells w (Enc.enc 0 y) ec ∧ ec.length = k ∧ ∀ j, j < k → (i * k + j = 0 → a.spot = none) ∧ a.block < w.heap.size ∧ w.cell? ⟨a.block, a.off + (i * k + j), none⟩ = some (ec.getD j undef) := fun i hi => by
      have h1 := hel i hi
      rw [List.getElem?_eq_getElem (by omega), Option.bind_eq_some_iff] at h1
      obtain ⟨ec, h2, h3⟩ := h1
      obtain ⟨h4, h5⟩ := cells?_all h2
      obtain ⟨y, s1, s2⟩ := he H enc w base sp held n ec _ h3
      refine ⟨y, ec, s1, s2, h4.trans hk, fun j hj => ?_⟩
      have h6 := h5 j (by omega)
      have h7 : w.cell? (a.add (i * k + j)) = some (ec.getD j undef) := by
        rw [← h6, hk]; congr 1
        unfold Addr.add
        by_cases hz1 : i * k = 0 <;> by_cases hz2 : j = 0 <;> simp [hz1, hz2, Nat.add_assoc] <;> omega
      exact cell_spot h7
    by_cases hz : len = 0
    · subst hz
      refine ⟨[], ⟨by simp, by simp⟩, rfl, fun j hj => ?_⟩
      have : j = 0 := by simp at hj; omega
      subst this
      exact .ds0 _ _ _ (by omega)
    · let f : Nat → α := fun i => if hi : i < len then (each i hi).choose else (each 0 (by omega)).choose
      have hf : ∀ i, i < len → ∃ ec : List Value, S (f i) ∧ RCells w (Enc.enc 0 (f i)) ec ∧ ec.length = k ∧ ∀ j, j < k → (i * k + j = 0 → a.spot = none) ∧ a.block < w.heap.size ∧ w.cell? ⟨a.block, a.off + (i * k + j), none⟩ = some (ec.getD j undef) := fun i hi => by
        have := (each i hi).choose_spec
        simp only [f, dif_pos hi]
        exact this
      have hmax : cap ≤ 9223372036854775807 := hm
      refine ⟨(List.range len).map f, ⟨by simp; omega, fun y hy => ?_⟩, rfl, fun j hj => ?_⟩
      · obtain ⟨i, hi, rfl⟩ := List.mem_map.1 hy
        exact (hf i (List.mem_range.1 hi)).choose_spec.1
      · have : j = 0 := by simp at hj; omega
        subst this
        obtain ⟨_, _, _, _, hsp⟩ := hf 0 (by omega)
        obtain ⟨sp0, blt, _⟩ := hsp 0 h0
        have sp0 := sp0 (by omega)
        obtain ⟨blk, off, spt⟩ := a
        simp only at sp0 blt
        subst sp0
        have hlen2 : (((List.range len).map f).map (Enc.enc 0)).length = len := by simp
        have hg : ∀ i, i < len → (((List.range len).map f).map (Enc.enc 0)).getD i .any = Enc.enc 0 (f i) := fun i hi => by simp [hi]
        have key := R.ds (I := fun b => b < w.heap.size) (J := fun _ => False) (rf := fun _ => none) (w := w) 0 (((List.range len).map f).map (Enc.enc 0)) blk off cap k
          (fun p => (w.cell? ⟨blk, off + p, none⟩).getD undef) (by omega) (.inl blt) (fun h => by rw [h] at hlen2; simp at hlen2; omega)
          (fun i hi => by
            rw [hlen2] at hi
            obtain ⟨ec, _, s2, s3, _⟩ := hf i hi
            rw [hg i hi]
            rw [← s3]; exact s2.1)
          (fun p hp => by
            rw [hlen2] at hp
            have hi : p / k < len := Nat.div_lt_of_lt_mul (by rw [Nat.mul_comm]; exact hp)
            obtain ⟨ec, _, _, _, s4⟩ := hf (p / k) hi
            have := (s4 (p % k) (Nat.mod_lt _ h0)).2.2
            rw [show p / k * k + p % k = p from by rw [Nat.mul_comm]; exact Nat.div_add_mod p k] at this
            simp only at this
            rw [this]; rfl)
          (fun i j hi hj => by
            rw [hlen2] at hi
            obtain ⟨ec, _, s2, s3, s4⟩ := hf i hi
            rw [hg i hi]
            have h1 := (s4 j hj).2.2
            simp only at h1
            rw [h1]
            exact s2.2 j (by omega))
          (by rw [hlen2]; exact hl) (by omega)
        rw [hlen2] at key
        exact key
end Go.Ev
namespace Go.Ev
open Go Go.RowKit Go.Ev.Enc Go.WideShapes Go.ChangeShapes

variable {P : Program}

theorem trodAll_stays (hl : laidOutB P = true) {H : Type} {enc : TypeId × Value → H} {W W' : World} (hb : Below W.heap.size W W') :
    ∀ {ts : List TypeId} {vs : List Value} {ds : List (DataW H)} {ps : List MemPlace}, (∀ t ∈ ts, P.readableRec t = true ∧ t < P.types.size) → (∀ p ∈ ps, p.block < W.heap.size) →
      DataW.TrodAll enc P W 0 (fun _ => true) true ts vs ds ps → DataW.TrodAll enc P W' 0 (fun b => decide (b < W.heap.size)) true ts vs ds ps
  | [], [], [], _, _, _, h => h
  | [], _ :: _, _, _, _, _, h => h.elim
  | [], [], _ :: _, _, _, _, h => h.elim
  | _ :: _, [], _, _, _, _, h => h.elim
  | _ :: _, _ :: _, [], _, _, _, h => h.elim
  | t :: ts, v :: vs, d :: ds, ps, hr, hlt, h => by
    obtain ⟨p, q, ⟨fuel, h1⟩, h2, rfl⟩ := h
    have ht := hr t (by simp)
    have hp : ∀ x ∈ p, x.block < W.heap.size := fun x hx => hlt x (by simp [hx])
    exact ⟨p, q, ⟨fuel, DataW.trod_stays (kids_book hl ht.1) (book_sized ht.1) (fun h => by cases h) ⟨ht.2, book_self t⟩ h1 (fun x hx => hb.same (hp x hx)) (fun x hx => by simpa using hp x hx)⟩,
      trodAll_stays hl hb (fun u hu => hr u (by simp [hu])) (fun x hx => hlt x (by simp [hx])) h2, rfl⟩

/-- what a law's call leaves, as its statement has it -/
theorem law_post (hl : laidOutB P = true) {H : Type} {enc : TypeId × Value → H} {fn : Func} {s : ChangeSpec} {tb : TypeId} (hr : ∀ t ∈ fn.params.toList, P.readableRec t = true ∧ t < P.types.size)
    (hvars : s.vars = []) (hres : fn.resultTypes = #[tb]) (htb : P.underlying tb = some .bool) {W W' : World} {args : Array Value} {ds gs : List (DataW H)} {before : List MemPlace}
    (hW : DataW.Whole enc P fn.params.toList s.vars false W args.toList ds gs before) (h1 : (s.fn H (ds ++ gs)).results = [.lit (.bool true)]) (h2 : (s.fn H (ds ++ gs)).args = ds) (h3 : (s.fn H (ds ++ gs)).vars = [])
    (hb : Below W.heap.size W W') : s.post enc P fn false true false false W args (.bool true) W' := by
  have hlt : ∀ p ∈ before, p.block < W.heap.size := fun p hp => hW.lt p hp
  have hW' := hW
  obtain ⟨p, q, hA, hV, rfl, _, _⟩ := hW
  refine ⟨ds, gs, p ++ q, [], p, [], hW', ?_, ?_, ?_, hb.frame _, fun h => by cases h⟩
  · rw [hres, h1]
    exact ⟨[], [], ⟨1, by simp [DataW.trod, htb, Value.cells]⟩, rfl, rfl⟩
  · rw [h2]
    exact trodAll_stays hl hb hr (fun x hx => hlt x (by simp [hx])) hA
  · rw [hvars, h3]; rfl

/-- an argument, as data -/
def ArgOpens (P : Program) (t : TypeId) {α : Type} [Enc α] (S : α → Prop) : Prop :=
  ∀ (H : Type) (enc : TypeId × Value → H) (w : World) (base b0 : Nat) (sp : Nat → Bool) (held : Bool) (v : Value) (d : DataW H) (ps : List MemPlace),
    Value.okWide P w .any b0 t v → DataW.Trod enc P w base sp held t v d ps → ∃ a : α, S a ∧ RIn w (Enc.enc 0 a) v

theorem Opens.argI {t : TypeId} {S : Int → Prop} (ht : P.underlying t = some (.int .i64)) (h : Opens P t (α := Int) S) : ArgOpens P t S := by
  intro H enc w base b0 sp held v d ps hv ⟨fuel, hd⟩
  obtain ⟨n, rfl⟩ := okWide_int ht hv
  obtain ⟨a, s, hr⟩ := h H enc w base sp held fuel _ _ hd
  exact ⟨a, s, hr.2 0 (by simp [Value.cells])⟩
theorem Opens.argL {t e : TypeId} {α : Type} [Enc α] {S : List α → Prop} (ht : P.underlying t = some (.slice e)) (h : Opens P t (α := List α) S) : ArgOpens P t S := by
  intro H enc w base b0 sp held v d ps hv ⟨fuel, hd⟩
  obtain ⟨a, len, cap, rfl⟩ := okWide_slice ht hv
  obtain ⟨a, s, hr⟩ := h H enc w base sp held fuel _ _ hd
  exact ⟨a, s, hr.2 0 (by simp [Value.cells])⟩
theorem Opens.argS {t : TypeId} {fs : Array Field} {α : Type} [Enc α] {S : α → Prop} (ht : P.underlying t = some (.struct fs)) (hagg : ∀ a : α, ∃ l, Enc.enc 0 a = AV.agg l) (h : Opens P t (α := α) S) : ArgOpens P t S := by
  intro H enc w base b0 sp held v d ps hv ⟨fuel, hd⟩
  simp only [Value.okWide, ht] at hv
  obtain ⟨cs, rfl, hsz, _⟩ := hv
  obtain ⟨a, s, hr⟩ := h H enc w base sp held fuel _ _ hd
  obtain ⟨l, hl⟩ := hagg a
  refine ⟨a, s, ?_⟩
  rw [hl] at hr ⊢
  obtain ⟨h1, h2⟩ := hr
  have hc : (Value.agg cs).cells.toList = cs.toList := rfl
  rw [hc] at h1 h2
  have h1' : cs.size = l.length := by simpa [AV.cells] using h1.symm
  refine .agg l cs h1' fun i hi => ?_
  have := h2 i (by simpa [h1'] using hi)
  have e : cs.toList.getD i undef = cs.getD i undef := by simp [Array.getD_eq_getD_getElem?]
  rw [e] at this
  exact this

/-- a struct of two fields of one cell each -/
theorem opens_pair {t : TypeId} {f0 f1 : Field} {α β γ : Type} [Enc α] [Enc β] [Enc γ] {S : α → Prop} {T : β → Prop} {U : γ → Prop} (ht : P.underlying t = some (.struct #[f0, f1]))
    (hsz : P.cellsOf t = 2) (o0 : f0.offset = 0) (o1 : f1.offset = 1) (k0 : P.cellsOf f0.type = 1) (k1 : P.cellsOf f1.type = 1) (h0 : Opens P f0.type (α := α) S) (h1 : Opens P f1.type (α := β) T)
    (hmk : ∀ a b, S a → T b → ∃ c : γ, U c ∧ (Enc.enc 0 c : AV) = .agg ((Enc.enc 0 a : AV).cells ++ (Enc.enc 0 b : AV).cells)) : Opens P t (α := γ) U := by
  intro H enc w base sp held fuel cs x h
  obtain ⟨y0, y1, n, _, hl, g0, g1⟩ := trod_struct2 ht h
  rw [hsz] at hl
  match cs, hl with
  | [c0, c1], _ =>
    rw [o0, k0] at g0
    rw [o1, k1] at g1
    obtain ⟨a, s0, r0⟩ := h0 H enc w base sp held n [c0] _ g0
    obtain ⟨b, s1, r1⟩ := h1 H enc w base sp held n [c1] _ g1
    obtain ⟨c, u, hc⟩ := hmk a b s0 s1
    refine ⟨c, u, ?_⟩
    rw [hc]
    have l0 : (Enc.enc 0 a : AV).cells.length = 1 := r0.1
    have l1 : (Enc.enc 0 b : AV).cells.length = 1 := r1.1
    match hx : (Enc.enc 0 a : AV).cells, l0 with
    | [x0], _ =>
      match hy : (Enc.enc 0 b : AV).cells, l1 with
      | [x1], _ =>
        refine ⟨rfl, fun j hj => ?_⟩
        match j, hj with
        | 0, _ => have := r0.2 0 (by simp); rw [hx] at this; exact this
        | 1, _ => have := r1.2 0 (by simp); rw [hy] at this; exact this

/-- a law's call, from its contract on data -/
theorem law_calls {f : FuncId} {xs : List AV} (h : CSpec P f xs (.bool true)) {W : World} {args : Array Value} (hl : args.size = xs.length) (hx : ∀ i, i < xs.length → RIn W (xs.getD i .any) (args.getD i undef)) :
    Calls P f args W fun e W' => e = .returned (.bool true) ∧ Below W.heap.size W W' :=
  (h (fun b => b < W.heap.size) W args hl hx fun _ h => h).mono fun e W' ⟨v, J', he, hb, _, hr⟩ => ⟨by rw [he, hr.bool_inv], hb⟩

def upd (S : FuncId → Option (List AV → Option AV)) (f : FuncId) (F : List AV → Option AV) : FuncId → Option (List AV → Option AV) := fun g => if g = f then some F else S g
theorem Sound.none : Sound P (fun _ => Option.none) := ⟨fun _ _ h => by simp at h, fun _ _ _ _ h => by simp at h⟩
theorem Sound.add {S : FuncId → Option (List AV → Option AV)} {f : FuncId} {F : List AV → Option AV} (h : Sound P S) (hc : CanCall P f) (hs : ∀ a r, F a = some r → CSpec P f a r) : Sound P (upd S f F) := by
  refine ⟨fun g G hg => ?_, fun g G a r hg hr => ?_⟩
  · unfold upd at hg
    split at hg
    · rename_i e; subst e; exact hc
    · exact h.can g G hg
  · unfold upd at hg
    split at hg
    · rename_i e
      subst e
      have : F = G := Option.some.inj hg
      subst this
      exact hs a r hr
    · exact h.spec g G a r hg hr
end Go.Ev
namespace Go.Ev
open Go Go.RowKit

variable {P : Program}

/-! ### Results in blocks of their own -/

def renC (g : Nat → Option Nat) : AV → AV
  | .sl b ver off len cap => match g b with
    | some b' => .sl b' ver off len cap
    | none => .any
  | .nilS => .nilS
  | .int k n => .int k n
  | .bool b => .bool b
  | .str s => .str s
  | .nilP => .nilP
  | _ => .any
def renV (g : Nat → Option Nat) : AV → AV
  | .tup l => .tup (l.map (expE (renC g)))
  | x => expE (renC g) x
def renB (g : Nat → Option Nat) (k : Blk) : Blk := ⟨k.esz, k.l.map (expE (renC g))⟩
/-- the chosen blocks lie, in the order of the choice, from n on -/
def gOf (sel : List Nat) (n b : Nat) : Option Nat := (sel.idxOf? b).map fun i => n + i

theorem renC_noAgg (g : Nat → Option Nat) : NoAgg (renC g) := by
  intro x l
  unfold renC
  split <;> (try split) <;> simp
theorem renB_len (g : Nat → Option Nat) (k : Blk) : (renB g k).l.length = k.l.length := by simp [renB]

section
variable {I J I' J' : Nat → Prop} {rf rf' : Nat → Option E} {w : World} {g : Nat → Option Nat} (hg : ∀ b b' e, g b = some b' → rf b = some e → rf' b' = some e)
include hg
theorem renC_sound {x : AV} {v : Value} (h : R I J rf w x v) : R I' J' rf' w (renC g x) v := by
  unfold renC
  split
  · split
    · rename_i b' hb
      cases h with
      | sl _ _ _ _ _ _ e a0 a1 a2 a3 => exact .sl _ _ _ _ _ _ e a0 (hg _ _ _ hb a1) a2 a3
    · exact .any _
  · cases h with | nilS a => exact .nilS a
  · cases h with | int => exact .int _ _
  · cases h with | bool => exact .bool _
  · cases h with | str => exact .str _
  · cases h with | nilP => exact .nilP
  · exact .any _
theorem renE_sound {x : AV} {v : Value} (h : R I J rf w x v) : R I' J' rf' w (expE (renC g) x) v := by
  unfold expE
  split
  · cases h with
    | agg l arr h1 h2 =>
      refine .agg _ _ (by simp [h1]) fun i hi => ?_
      rw [List.length_map] at hi
      rw [map_getD _ _ _ hi]
      exact renC_sound hg (h2 i hi)
  · exact renC_sound hg h
theorem renV_sound {x : AV} {v : Value} (h : R I J rf w x v) : R I' J' rf' w (renV g x) v := by
  unfold renV
  split
  · cases h with
    | tup l arr h1 h2 =>
      refine .tup _ _ (by simp [h1]) fun i hi => ?_
      rw [List.length_map] at hi
      rw [map_getD _ _ _ hi]
      exact renE_sound hg (h2 i hi)
  · exact renE_sound hg h
end

/-- **A CONTRACT WITH A RESULT OF ITS OWN**: handed values that read as these data, the function makes the blocks N, hands back r, and changes nothing else. -/
def OSpec (P : Program) (f : FuncId) (args : List AV) (r : Nat → AV) (N : Nat → List Blk) : Prop :=
  ∀ (L : List Blk) (xs : List AV), xs.map (exp 0 L) = args → ISpec P f xs L (fun v L' => v = r L.length ∧ L' = L ++ N L.length)

def OwnQ (r : Nat → AV) (N : Nat → List Blk) (rv : AV) (Lf : List Blk) : Prop :=
  ∃ sel : List Nat, sel.Nodup ∧ (∀ b ∈ sel, b < Lf.length) ∧ (∀ n, r n = renV (gOf sel n) rv) ∧ ∀ n, N n = sel.map fun b => renB (gOf sel n) (Lf.getD b ⟨0, []⟩)

theorem idxOf?_some {sel : List Nat} {b i : Nat} (h : sel.idxOf? b = some i) : sel[i]? = some b := by
  induction sel generalizing i with
  | nil => simp at h
  | cons a l ih =>
    rw [List.idxOf?_cons] at h
    split at h
    · rename_i hab
      simp at h hab
      subst h hab
      rfl
    · cases hl : l.idxOf? b with
      | none => rw [hl] at h; simp at h
      | some j =>
        rw [hl] at h
        simp at h
        subst h
        simpa using ih hl

theorem OSpec.intro {f : FuncId} {fn : Func} {c : Code} (hf : P.funcs[f]? = some fn) (hb : fn.body = some c) {args : List AV} {r : Nat → AV} {N : Nat → List Blk}
    (h : AW P c (DoneQ P fn (OwnQ r N)) ⟨args ++ List.replicate (fn.ntmps - args.length) .any, []⟩) : OSpec P f args r N := by
  intro L xs hxs V w vs hr hl hx
  let I' : Nat → Prop := fun x => V.I x ∨ V.J x ∨ ∃ (b : Nat) (e : Nat × Nat × Nat), V.m[b]? = some e ∧ e.1 = x
  have hlt : ∀ x, I' x → x < w.heap.size := fun x hx => by
    rcases hx with h | h | ⟨b, e, h, rfl⟩
    · exact hr.Ilt x h
    · exact (hr.Jlt x h).2
    · exact hr.blt h
  let V0 : Vw := ⟨w.heap.size, I', fun _ => False, []⟩
  have hrel : Rel V0 [] w := ⟨rfl, by simp, by simp [V0], by simp [V0], hlt, fun _ h => h.elim, Nat.le_refl _⟩
  have hrf : rfOf V0.m [] = fun _ => none := by funext b; simp [rfOf]
  have hs := initS (args := args) (vs := vs) hrel (by rw [← hxs]; simpa using hl) (fun i hi => by
    rw [← hxs, List.length_map] at hi
    rw [hrf, ← hxs, map_getD _ _ _ hi]
    exact exp_sound hr 0 (by omega) (fun x h => .inl (.inl h)) (fun x h => .inl (.inr (.inl h))) (fun b e h => .inl (.inr (.inr ⟨b, e, h, rfl⟩))) (fun _ _ h => h) (by simp) (by simp) _ _ (hx i hi)) fn.ntmps
  refine calls_of_wp hf hb (wp_mono (h V0 _ w hs) ?_)
  rintro e a' w' ⟨s', V', h1, h2, h3⟩
  have fin : (∃ rv, resA P fn s' = some rv ∧ OwnQ r N rv s'.L) → a'.defers = [] ∧ ∃ v, (results fn a'.tmps).run P w' = .ok v w' ∧
      ∃ u r' L' V', Ending.returned v = .returned u ∧ (r' = r L.length ∧ L' = L ++ N L.length) ∧ Rel V' L' w' ∧ Step V w V' w' ∧ rfExt (rfOf V.m L) (rfOf V'.m L') ∧ R V'.I V'.J (rfOf V'.m L') w' r' u := by
    rintro ⟨rv, k1, sel, n1, n2, n3, n4⟩
    obtain ⟨u, g1, g2⟩ := resA_sound h2 k1
    have hB : V'.B = w.heap.size := h3.1.B
    have hkeep : ∀ x, x < w.heap.size → w'.heap[x]? = w.heap[x]? := fun x hx => (h3.1.keep x hx (by simp [V0])).1
    have hsz := h3.1.size
    let m2 := sel.map fun b => V'.m.getD b (0, 0, 0)
    let V2 : Vw := ⟨V.B, V.I, V.J, V.m ++ m2⟩
    have hm2 : ∀ (i : Nat) (x : Nat × Nat × Nat), m2[i]? = some x → ∃ b : Nat, sel[i]? = some b ∧ V'.m[b]? = some x := by
      intro i x hx
      simp only [m2, List.getElem?_map, Option.map_eq_some_iff] at hx
      obtain ⟨b, hb, rfl⟩ := hx
      have hbl := n2 b (List.mem_of_getElem? hb)
      have : b < V'.m.length := by rw [h2.rel.len]; exact hbl
      exact ⟨b, hb, by simp [this]⟩
    have hfr : ∀ (i : Nat) (x : Nat × Nat × Nat), m2[i]? = some x → w.heap.size ≤ x.1 := by
      intro i x hx
      obtain ⟨b, _, hb⟩ := hm2 i x hx
      have := (h2.rel.fresh b x hb).1
      omega
    have hst : Step V w V2 w' := by
      refine ⟨rfl, rfl, fun _ h => h, fun x hx hm => ⟨hkeep x hx, fun b e he => ?_⟩, hsz, h3.1.os, h3.1.tape, h3.1.output⟩
      simp only [V2, List.getElem?_append] at he
      split at he
      · exact hm b e he
      · have := hfr _ _ he; omega
    have hext : rfExt (rfOf V.m L) (rfOf V2.m (L ++ N L.length)) := rfExt_append hr.len
    have hg : ∀ b b' e, gOf sel L.length b = some b' → rfOf V'.m s'.L b = some e → rfOf V2.m (L ++ N L.length) b' = some e := by
      intro b b' e hb he
      simp only [gOf, Option.map_eq_some_iff] at hb
      obtain ⟨i, hi, rfl⟩ := hb
      have hsi := idxOf?_some hi
      unfold rfOf at he
      split at he
      · rename_i k x hk hx
        have hx2 : m2[i]? = some x := by simp [m2, hsi, hx]
        have hk2 : (N L.length)[i]? = some (renB (gOf sel L.length) k) := by rw [n4]; simp [hsi, hk]
        have e1 : V2.m[L.length + i]? = some x := by
          show (V.m ++ m2)[L.length + i]? = _
          rw [List.getElem?_append_right (by rw [hr.len]; omega), hr.len, Nat.add_sub_cancel_left]; exact hx2
        have e2 : (L ++ N L.length)[L.length + i]? = some (renB (gOf sel L.length) k) := by
          rw [List.getElem?_append_right (by omega), Nat.add_sub_cancel_left]; exact hk2
        unfold rfOf
        rw [e1, e2]
        simp only [renB_len]
        exact he
      · simp at he
    refine ⟨h2.defers, u, g1, u, _, _, V2, rfl, ⟨rfl, rfl⟩, ⟨?_, ?_, ?_, ?_, ?_, ?_, ?_⟩, hst, hext, ?_⟩
    · simp [V2, m2, hr.len, n4]
    · intro b k x hk hx
      simp only [V2, List.getElem?_append] at hk hx
      by_cases hbl : b < L.length
      · rw [if_pos hbl] at hk
        rw [if_pos (by rw [hr.len]; exact hbl)] at hx
        obtain ⟨c, ty, a1, a2, a3, a4, a5⟩ := hr.blk b k x hk hx
        exact ⟨c, ty, by rw [hkeep _ (hr.blt hx)]; exact a1, a2, a3, a4, fun i j hi hj => (a5 i j hi hj).step hr hst hext⟩
      · rw [if_neg hbl] at hk
        rw [if_neg (by rw [hr.len]; exact hbl), hr.len] at hx
        obtain ⟨b0, hb0, hx0⟩ := hm2 _ _ hx
        rw [n4] at hk
        simp only [List.getElem?_map, hb0, Option.map_some, Option.some.injEq] at hk
        subst hk
        have hbl := n2 b0 (List.mem_of_getElem? hb0)
        obtain ⟨c, ty, a1, a2, a3, a4, a5⟩ := h2.rel.blk b0 s'.L[b0] x (List.getElem?_eq_getElem hbl) hx0
        have hgd : s'.L.getD b0 ⟨0, []⟩ = s'.L[b0] := by simp [hbl]
        rw [hgd]
        refine ⟨c, ty, a1, a2, by rw [renB_len]; exact a3, fun i hi => ?_, fun i j hi hj => ?_⟩
        · rw [renB_len] at hi
          simp only [renB]
          rw [map_getD _ _ _ hi, (renC_noAgg _).cells, List.length_map]
          exact a4 i hi
        · rw [renB_len] at hi
          simp only [renB] at hj ⊢
          have := a4 i hi
          rw [map_getD _ _ _ hi, (renC_noAgg _).cells, map_getD _ _ _ (by omega)]
          exact renC_sound hg (a5 i j hi hj)
    · intro b x hx
      simp only [V2, List.getElem?_append] at hx
      split at hx
      · exact hr.fresh b x hx
      · have := hfr _ _ hx
        refine ⟨by have := hr.Bsz; show V.B ≤ _; omega, fun hi => ?_, fun hj => ?_⟩
        · have := hr.Ilt _ hi; omega
        · have := (hr.Jlt _ hj).2; omega
    · intro b b' x x' hx hx' hxx
      simp only [V2, List.getElem?_append] at hx hx'
      split at hx
      · split at hx'
        · exact hr.inj b b' x x' hx hx' hxx
        · have := hfr _ _ hx'; have := hr.blt hx; omega
      · split at hx'
        · have := hfr _ _ hx; have := hr.blt hx'; omega
        · obtain ⟨c, hc, hxc⟩ := hm2 _ _ hx
          obtain ⟨c', hc', hxc'⟩ := hm2 _ _ hx'
          have := h2.rel.inj c c' x x' hxc hxc' hxx
          subst this
          have := (List.getElem?_inj (by exact (List.getElem?_eq_some_iff.1 hc).1) n1).1 (hc.trans hc'.symm)
          rw [hr.len] at *
          omega
    · exact fun x h => Nat.lt_of_lt_of_le (hr.Ilt x h) hsz
    · exact fun x h => ⟨(hr.Jlt x h).1, Nat.lt_of_lt_of_le (hr.Jlt x h).2 hsz⟩
    · exact Nat.le_trans hr.Bsz hsz
    · rw [n3]; exact renV_sound hg g2
  cases e with
  | normal =>
    obtain ⟨d1, v, d2, d3⟩ := fin h1
    exact ⟨d1, v, d2, d3⟩
  | ret =>
    obtain ⟨d1, v, d2, d3⟩ := fin h1
    exact ⟨d1, v, d2, d3⟩
  | _ => exact h1.elim

/-- read as data -/
theorem OSpec.cspec {f : FuncId} {args : List AV} {r : Nat → AV} {N : Nat → List Blk} (h : OSpec P f args r N) (ha : args.map (exp 0 []) = args) {q : AV} (hown : Own q) (hq : exp 1 (N 0) (r 0) = q) : CSpec P f args q := by
  intro I w vs hl hx hI
  let V : Vw := ⟨w.heap.size, I, fun _ => False, []⟩
  have hrel : Rel V [] w := ⟨rfl, by simp, by simp [V], by simp [V], hI, fun _ h => h.elim, Nat.le_refl _⟩
  have hrf : rfOf V.m [] = fun _ => none := by funext b; simp [rfOf]
  refine (h [] args ha V w vs hrel hl (fun i hi => by rw [hrf]; exact hx i hi)).mono ?_
  rintro e w' ⟨v, r', L', V', rfl, ⟨rfl, rfl⟩, h2, h3, h4, g2⟩
  have hB : V'.B = w.heap.size := h3.B
  refine ⟨v, fun x => V'.J x ∨ ∃ (b : Nat) (e : Nat × Nat × Nat), V'.m[b]? = some e ∧ e.1 = x, rfl, ⟨h3.os, h3.tape, h3.output, h3.size, fun k hk => (h3.keep k hk (by simp [V])).1⟩, fun x hx => ?_, ?_⟩
  · rcases hx with hx | ⟨b, e, he, rfl⟩
    · have := h2.Jlt x hx; omega
    · have := (h2.fresh b e he).1; have := h2.blt he; omega
  · have := exp_sound (I' := V'.I) (J' := fun x => V'.J x ∨ ∃ (b : Nat) (e : Nat × Nat × Nat), V'.m[b]? = some e ∧ e.1 = x) (rf' := fun _ => none) (L0 := [] ++ N ([] : List Blk).length) h2 1 (by omega) (fun x hx => .inl hx) (fun x hx => .inr (.inl hx)) (fun b e he => .inr (.inr ⟨b, e, he, rfl⟩)) (fun _ _ h => h)
        (fun _ x hx => .inl hx) (fun _ b e he => .inr ⟨b, e, he, rfl⟩) _ v g2
    rw [show exp 1 ([] ++ N ([] : List Blk).length) (r ([] : List Blk).length) = q from hq] at this
    exact this.own hown

/-- without one of the contracts -/
def hide (S : FuncId → Option (List AV → Option AV)) (f : FuncId) : FuncId → Option (List AV → Option AV) := fun g => if g = f then none else S g
theorem Sound.hide {S : FuncId → Option (List AV → Option AV)} (h : Sound P S) (f : FuncId) : Sound P (hide S f) := by
  refine ⟨fun g F hg => ?_, fun g F a r hg => ?_⟩ <;> unfold Go.Ev.hide at hg <;> split at hg
  · simp at hg
  · exact h.can g F hg
  · simp at hg
  · exact h.spec g F a r hg

theorem set_same {L : List Blk} {b : Nat} {k : Blk} (h : L[b]? = some k) : L.set b k = L := by
  apply List.ext_getElem?
  intro i
  rw [getElem?_set']
  split
  · rename_i hi; subst hi; rw [if_pos (List.getElem?_eq_some_iff.1 h).1, h]
  · rfl

/-! ### Two sets of contracts: one for the regions that draw their order, one for the others -/

variable {Sg Sd : FuncId → Option (List AV → Option AV)}
def vc2 (P : Program) (Sg Sd : FuncId → Option (List AV → Option AV)) : Code → (Exit → St → Prop) → St → Prop
  | .skip, Q, s => Q .normal s
  | .label _, Q, s => Q .normal s
  | .ret, Q, s => Q .ret s
  | .exit id, Q, s => Q (.exit id) s
  | .seq a b, Q, s => vc2 P Sg Sd a (thenA (vc2 P Sg Sd b Q) Q) s
  | .cond c a b, Q, s => condQ (s.ρ c) (vc2 P Sg Sd a Q) (vc2 P Sg Sd b Q) s
  | .block id c, Q, s => vc2 P Sg Sd c (blockA id Q) s
  | .region _ ops true, Q, s => RegQ ops (runQ P Sd s.L.length ops ops.toList (Q .normal) s)
  | .region _ ops false, Q, s => InlQ P Sg ops ops.toList (Q .normal) s
  | .loop c, Q, s => LoopQ (vc2 P Sg Sd c) Q s
  | _, _, _ => False

theorem vc2_sound (hP : PF P) (hS : Sound P Sg) (hD : Sound P Sd) : ∀ (c : Code) (Q : Exit → St → Prop) (s : St), vc2 P Sg Sd c Q s → AW P c Q s
  | .skip, _, _, h => .skip h
  | .label _, _, _, h => .label h
  | .ret, _, _, h => .ret h
  | .exit _, _, _, h => .exit h
  | .seq a b, Q, s, h => .seq (AW.mono (vc2_sound hP hS hD a _ s h) fun e s hq => by
      cases e with
      | normal => exact vc2_sound hP hS hD b Q s hq
      | _ => exact hq)
  | .cond c a b, Q, s, h => by
    unfold vc2 condQ at h
    split at h
    · rename_i ht; exact .cond ht (by rw [if_pos rfl]; exact vc2_sound hP hS hD a Q s h)
    · rename_i ht; exact .cond ht (by rw [if_neg (by simp)]; exact vc2_sound hP hS hD b Q s h)
    · exact h.elim
  | .block id c, Q, s, h => .block (vc2_sound hP hS hD c _ s h)
  | .region id ops draw, Q, s, h => by
    obtain ⟨l, rfl⟩ : ∃ l : List Oper, ops = l.toArray := ⟨ops.toList, by simp⟩
    cases draw with
    | true => exact .drawS hP hD h.1 h.2
    | false => exact .region hP hS h
  | .loop c, Q, s, h => by
    obtain ⟨Inv, n0, G, hG, h0, hs⟩ := h
    rcases hG with rfl | ⟨g, hg, rfl⟩
    · exact .loop Inv h0 fun n s hi => vc2_sound hP hS hD c _ s (hs n s hi)
    · exact .loopG Inv hg h0 fun n s hi => vc2_sound hP hS hD c _ s (hs n s hi)
  | .rangeFunc .., _, _, h => h.elim
  | .scope _, _, _, h => h.elim
  | .goto _, _, _, h => h.elim
  | .refuse _, _, _, h => h.elim

theorem vc2_skip {Q : Exit → St → Prop} {s : St} : vc2 P Sg Sd .skip Q s = Q .normal s := rfl
theorem vc2_label {l : Nat} {Q : Exit → St → Prop} {s : St} : vc2 P Sg Sd (.label l) Q s = Q .normal s := rfl
theorem vc2_ret {Q : Exit → St → Prop} {s : St} : vc2 P Sg Sd .ret Q s = Q .ret s := rfl
theorem vc2_exit {id : Nat} {Q : Exit → St → Prop} {s : St} : vc2 P Sg Sd (.exit id) Q s = Q (.exit id) s := rfl
theorem vc2_seq {a b : Code} {Q : Exit → St → Prop} {s : St} : vc2 P Sg Sd (.seq a b) Q s = vc2 P Sg Sd a (thenA (vc2 P Sg Sd b Q) Q) s := rfl
theorem vc2_cond {c : Operand} {a b : Code} {Q : Exit → St → Prop} {s : St} : vc2 P Sg Sd (.cond c a b) Q s = condQ (s.ρ c) (vc2 P Sg Sd a Q) (vc2 P Sg Sd b Q) s := rfl
theorem vc2_block {id : Nat} {c : Code} {Q : Exit → St → Prop} {s : St} : vc2 P Sg Sd (.block id c) Q s = vc2 P Sg Sd c (blockA id Q) s := rfl
theorem vc2_draw {id : Nat} {l : List Oper} {Q : Exit → St → Prop} {s : St} : vc2 P Sg Sd (.region id l.toArray true) Q s = RegQ l.toArray (runQ P Sd s.L.length l.toArray l (Q .normal) s) := rfl
theorem vc2_inl {id : Nat} {l : List Oper} {Q : Exit → St → Prop} {s : St} : vc2 P Sg Sd (.region id l.toArray false) Q s = InlQ P Sg l.toArray l (Q .normal) s := rfl
theorem vc2_loop {c : Code} {Q : Exit → St → Prop} {s : St} : vc2 P Sg Sd (.loop c) Q s = LoopQ (vc2 P Sg Sd c) Q s := rfl
attribute [go_sem] vc2_skip vc2_label vc2_ret vc2_exit vc2_seq vc2_cond vc2_block vc2_draw vc2_inl vc2_loop

/-- a law: what is told of its body, with both sets of contracts -/
theorem law2 {f : FuncId} {fn : Func} {c : Code} (hf : P.funcs[f]? = some fn) (hb : fn.body = some c) (hP : PF P) (hS : Sound P Sg) (hD : Sound P Sd) {args : List AV} {b : Bool}
    (h : vc2 P Sg Sd c (DoneQ P fn fun rv L => exp 1 L rv = .bool b) ⟨args ++ List.replicate (fn.ntmps - args.length) .any, []⟩) : CSpec P f args (.bool b) :=
  CSpec.intro hf hb (.bool b) (vc2_sound hP hS hD _ _ _ h)

/-- by a contract that makes blocks -/
theorem OSpec.call {f : FuncId} {args : List AV} {r : Nat → AV} {N : Nat → List Blk} (h : OSpec P f args r N) {K : AV → List Blk → Prop} {L : List Blk} {xs : List AV} (hx : xs.map (exp 0 L) = args) (hk : K (r L.length) (L ++ N L.length)) : ISpec P f xs L K :=
  (h L xs hx).mono fun _ _ ⟨h1, h2⟩ => by rw [h1, h2]; exact hk

end Go.Ev
