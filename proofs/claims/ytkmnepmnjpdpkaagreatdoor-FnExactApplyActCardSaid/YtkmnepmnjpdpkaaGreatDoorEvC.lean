/- Sorted lists, slices that a library function writes, arguments as data, and what a law leaves. -/
import Derived.Lib.RowBridge
import Derived.Lib.AtoiAllCases
import Derived.Lib.ItoaLen
import Derived.Lib.SplitLaws
import Derived.Test.YtkmnepmnjpdpkaaGreatDoorEvA
import Derived.Lib.LaidTab
import Derived.Test.YtkmnepmnjpdpkaaGreatDoorEvB
import Derived.Sort.Row
import Derived.Sort.Grow
import Derived.Shelf.Slices.CompactI
import Derived.WalkKit
import Derived.ProofKit
import Derived.OpenShut
import Derived.OpenVars
import Derived.JoinedCond
import Derived.Lib.LaidU8
import Derived.Handed
import Derived.HandedShaped
set_option linter.all false
namespace Go.Pl
open Go.Lib

end Go.Pl
namespace Go.Pl
open Go.Lib

end Go.Pl
namespace Go.Ev
open Go Go.RowKit

def VarOK (P : Program) (I : Nat → Prop) (w : World) (n : String) (Q : Array Value → Prop) : Prop := ∃ g cs, P.globalNamed n = some g ∧ I g ∧ w.var? P n = some cs ∧ Q cs
theorem VarOK.mono {P : Program} {I I' : Nat → Prop} {w w' : World} {n : String} {Q : Array Value → Prop} (h : VarOK P I w n Q) (hI : ∀ x, I x → I' x) (hw : ∀ x, I x → w'.heap[x]? = w.heap[x]?) : VarOK P I' w' n Q := by
  obtain ⟨g, cs, h1, h2, h3, h4⟩ := h
  refine ⟨g, cs, h1, hI g h2, ?_, h4⟩
  rw [← h3]
  simp only [World.var?, h1, Option.bind_some, hw g h2]
theorem VarOK.cell {P : Program} {I : Nat → Prop} {w : World} {n : String} {Q : Array Value → Prop} (h : VarOK P I w n Q) {g : Nat} (hg : P.globalNamed n = some g) : I g ∧ ∃ cs, Q cs ∧ ∀ i, w.cell? ⟨g, i, none⟩ = cs[i]? := by
  obtain ⟨g', cs, h1, h2, h3, h4⟩ := h
  rw [hg] at h1
  cases h1
  exact ⟨h2, cs, h4, fun i => World.var?_cell hg h3 i⟩
theorem VarOK.tab {P : Program} {I : Nat → Prop} {w : World} {n : String} {k : IntKind} {zs : List Int} (h : VarOK P I w n (fun cs => cs = (zs.map fun z => Value.int k z).toArray)) : Lib.TabIs P w n k zs := by
  obtain ⟨g, cs, -, -, h3, rfl⟩ := h
  exact h3
theorem VarOK.dptr [Gl] {P : Program} {I : Nat → Prop} {w : World} {n : String} {l : List Value} {a : List AV} (h : VarOK P I w n (fun cs => cs = l.toArray)) {g : Nat} (hg : P.globalNamed n = some g) (hl : a.length = l.length)
    (ha : ∀ i, i < a.length → R I (fun _ => False) (fun _ => none) w (a.getD i .any) (l.getD i undef)) : R I (fun _ => False) (fun _ => none) w (.dptr a 0) (.pointer (some ⟨g, 0, none⟩)) := by
  obtain ⟨h1, cs, rfl, h2⟩ := h.cell hg
  refine R.dptr a 0 g 0 (fun i => l.getD i undef) (.inl h1) (fun j hj => ?_) ha
  rw [Nat.zero_add, h2 j]
  have : j < l.length := by omega
  simp [this]
end Go.Ev
namespace Go.Ev
open Go Go.RowKit Go.Sort
variable [Gl] [Lit]

variable {P : Program}

abbrev iV : Int → Value := Value.int .i64

theorem Rel.holds {V : Vw} {L : List Blk} {w : World} (hr : Rel V L w) {b : Nat} {x : Nat × Nat × Nat} {q : List Int} (hk : L[b]? = some ⟨1, q.map fun n => .int .i64 n⟩) (hx : V.m[b]? = some x) :
    Holds iV w x.1 x.2.1 q.toArray ∧ x.1 < w.heap.size := by
  obtain ⟨c, ty, a1, a2, a3, a4, a5⟩ := hr.blk b _ x hk hx
  simp only [List.length_map, Nat.mul_one] at a3
  refine ⟨fun j hj => ?_, hr.blt hx⟩
  have hj' : j < q.length := by simpa using hj
  constructor
  · rw [cell_of_block a1 (by omega)]
    have := a5 j 0 (by simpa using hj') (by simp)
    have e1 : ((q.map fun n => AV.int .i64 n).getD j .any).cells.getD 0 .any = .int .i64 (q[j]) := by simp [hj', AV.cells]
    rw [e1] at this
    have e2 := this.int_inv
    simp only [Nat.mul_one, Nat.add_zero] at e2
    rw [e2]
    simp [hj', iV]
  · simp [World.frozen?, a1]

end Go.Ev
namespace Go.Ev
open Go Go.RowKit
variable [Gl] [Lit]

theorem evApp_z0 {L : List Blk} {by' : Nat} {r : List Int} (h1 : r.length * by' ≤ 140737488355328) (h2 : r.length ≤ 9223372036854775807) :
    evApp (⟨1, []⟩ :: L) (.sl 0 0 0 0 0) (r.map fun n => .int .i64 n) 1 by' = some (.sl 0 r.length 0 r.length r.length, ⟨1, r.map fun n => .int .i64 n⟩ :: L) := by
  have := evApp_s0 (L := L) (n := 0) (by' := by') (q := []) (r := r) rfl (by rw [Nat.zero_add]; exact h1) (by omega)
  simpa using this
theorem evApp_z1 {B0 : Blk} {L : List Blk} {by' : Nat} {r : List Int} (h1 : r.length * by' ≤ 140737488355328) (h2 : r.length ≤ 9223372036854775807) :
    evApp (B0 :: ⟨1, []⟩ :: L) (.sl 1 0 0 0 0) (r.map fun n => .int .i64 n) 1 by' = some (.sl 1 r.length 0 r.length r.length, B0 :: ⟨1, r.map fun n => .int .i64 n⟩ :: L) := by
  have := evApp_s1 (B0 := B0) (L := L) (n := 0) (by' := by') (q := []) (r := r) rfl (by rw [Nat.zero_add]; exact h1) (by omega)
  simpa using this
theorem evApp_z2 {B0 B1 : Blk} {L : List Blk} {by' : Nat} {r : List Int} (h1 : r.length * by' ≤ 140737488355328) (h2 : r.length ≤ 9223372036854775807) :
    evApp (B0 :: B1 :: ⟨1, []⟩ :: L) (.sl 2 0 0 0 0) (r.map fun n => .int .i64 n) 1 by' = some (.sl 2 r.length 0 r.length r.length, B0 :: B1 :: ⟨1, r.map fun n => .int .i64 n⟩ :: L) := by
  have := evApp_s2 (B0 := B0) (B1 := B1) (L := L) (n := 0) (by' := by') (q := []) (r := r) rfl (by rw [Nat.zero_add]; exact h1) (by omega)
  simpa using this
theorem evApp_z3 {B0 B1 B2 : Blk} {L : List Blk} {by' : Nat} {r : List Int} (h1 : r.length * by' ≤ 140737488355328) (h2 : r.length ≤ 9223372036854775807) :
    evApp (B0 :: B1 :: B2 :: ⟨1, []⟩ :: L) (.sl 3 0 0 0 0) (r.map fun n => .int .i64 n) 1 by' = some (.sl 3 r.length 0 r.length r.length, B0 :: B1 :: B2 :: ⟨1, r.map fun n => .int .i64 n⟩ :: L) := by
  have := evApp_s3 (B0 := B0) (B1 := B1) (B2 := B2) (L := L) (n := 0) (by' := by') (q := []) (r := r) rfl (by rw [Nat.zero_add]; exact h1) (by omega)
  simpa using this
end Go.Ev
namespace Go.Ev
open Go Go.RowKit Go.Ev.Enc
variable [Gl] [Lit]

abbrev RIn (w : World) : AV → Value → Prop := R (fun b => b < w.heap.size) (fun _ => False) (fun _ => none) w
def RCells (w : World) (x : AV) (cs : List Value) : Prop := x.cells.length = cs.length ∧ ∀ j, j < cs.length → RIn w (x.cells.getD j .any) (cs.getD j undef)

def Opens (P : Program) (t : TypeId) {α : Type} [Enc α] (S : α → Prop) : Prop :=
  ∀ (H : Type) (enc : TypeId × Value → H) (w : World) (base : Nat) (sp : Nat → Bool) (held : Bool) (fuel : Nat) (cs : List Value) (x : DataW H × List MemPlace),
    DataW.trod enc P w base sp held fuel t cs = some x → ∃ a : α, S a ∧ RCells w (Enc.enc 0 a) cs

theorem wf_i64 {n : Int} (h : (Lit.int .i64 n).wf = true) : -9223372036854775808 ≤ n ∧ n ≤ 9223372036854775807 := by
  simpa [Lit.wf, IntKind.min, IntKind.max, IntKind.signed, IntKind.bits] using h
def i64B (n : Int) : Prop := -9223372036854775808 ≤ n ∧ n ≤ 9223372036854775807
theorem opens_int {P : Program} {t : TypeId} (ht : P.underlying t = some (.int .i64)) : Opens P t (α := Int) i64B := by
  intro H enc w base sp held fuel cs x h
  obtain ⟨n, rfl, _, hw⟩ := DataW.trod_int ht h
  refine ⟨n, wf_i64 hw, rfl, fun j hj => ?_⟩
  have : j = 0 := by simp at hj; omega
  subst this
  exact .int _ _
theorem opens_bool {P : Program} {t : TypeId} (ht : P.underlying t = some .bool) : Opens P t (α := Bool) (fun _ => True) := by
  intro H enc w base sp held fuel cs x h
  obtain ⟨b, rfl, _⟩ := DataW.trod_bool ht h
  refine ⟨b, trivial, rfl, fun j hj => ?_⟩
  have : j = 0 := by simp at hj; omega
  subst this
  exact .bool _

theorem cells?_all {w : World} {base : Nat} {a : Addr} {n : Nat} {cs : List Value} (h : w.cells? base a n = some cs) : cs.length = n ∧ ∀ i, i < n → w.cell? (a.add i) = some (cs.getD i undef) := by
  unfold World.cells? at h
  split at h
  · have hl := mapM_some_length h
    rw [List.length_range] at hl
    refine ⟨hl, fun i hi => ?_⟩
    have := mapM_some_get h i i (by rw [List.getElem?_range hi])
    rw [this, List.getElem?_eq_getElem (by omega)]
    simp [hl, hi]
  · simp at h
theorem cell_spot {w : World} {a : Addr} {i : Nat} {v : Value} (h : w.cell? (a.add i) = some v) : (i = 0 → a.spot = none) ∧ a.block < w.heap.size ∧ w.cell? ⟨a.block, a.off + i, none⟩ = some v := by
  obtain ⟨b, o, s⟩ := a
  have hb : b < w.heap.size := by
    unfold World.cell? at h
    have e : ((⟨b, o, s⟩ : Addr).add i).block = b := by unfold Addr.add; split <;> rfl
    rw [e] at h
    cases hh : w.heap[b]? with
    | none => simp [hh] at h
    | some o => exact (Array.getElem?_eq_some_iff.1 hh).1
  by_cases hi : i = 0
  · subst hi
    have e : (⟨b, o, s⟩ : Addr).add 0 = ⟨b, o, s⟩ := by simp [Addr.add]
    rw [e] at h
    cases s with
    | none => exact ⟨fun _ => rfl, hb, h⟩
    | some s =>
      exfalso
      unfold World.cell? at h
      split at h
      · simp at h
      · simp at h
  · refine ⟨fun h => absurd h hi, hb, ?_⟩
    simpa [Addr.add, hi] using h

def allS {α : Type} (S : α → Prop) (l : List α) : Prop := l.length ≤ 9223372036854775807 ∧ ∀ x ∈ l, S x
theorem opens_list {P : Program} {t e : TypeId} {α : Type} [Enc α] {S : α → Prop} (ht : P.underlying t = some (.slice e)) (k : Nat) (hk : P.cellsOf e = k) (h0 : 0 < k) (he : Opens P e S) :
    Opens P t (α := List α) (allS S) := by
  intro H enc w base sp held fuel cs x h
  rcases DataW.trod_slice ht h with ⟨rfl, -⟩ | ⟨a, len, cap, elems, rest, n, _, rfl, _, hb, hl, hm, hlen, hel, _, _⟩
  · refine ⟨[], ⟨by simp, by simp⟩, rfl, fun j hj => ?_⟩
    have : j = 0 := by simp at hj; omega
    subst this
    exact .ds0 _ _ _ (by omega)
  · have each : ∀ i, i < len → ∃ (y : α) (ec : List Value), S y ∧ RCells w (Enc.enc 0 y) ec ∧ ec.length = k ∧ ∀ j, j < k → (i * k + j = 0 → a.spot = none) ∧ a.block < w.heap.size ∧ w.cell? ⟨a.block, a.off + (i * k + j), none⟩ = some (ec.getD j undef) := fun i hi => by
      have h1 := hel i hi
      rw [List.getElem?_eq_getElem (by omega), Option.bind_eq_some_iff] at h1
      obtain ⟨ec, h2, h3⟩ := h1
      obtain ⟨h4, h5⟩ := cells?_all h2
      obtain ⟨y, s1, s2⟩ := he H enc w base sp held n ec _ h3
      refine ⟨y, ec, s1, s2, h4.trans hk, fun j hj => ?_⟩
      have h6 := h5 j (by omega)
      have h7 : w.cell? (a.add (i * k + j)) = some (ec.getD j undef) := by
        rw [← h6, hk]; congr 1
        unfold Addr.add
        by_cases hz1 : i * k = 0 <;> by_cases hz2 : j = 0 <;> simp [hz1, hz2, Nat.add_assoc] <;> omega
      exact cell_spot h7
    by_cases hz : len = 0
    · subst hz
      refine ⟨[], ⟨by simp, by simp⟩, rfl, fun j hj => ?_⟩
      have : j = 0 := by simp at hj; omega
      subst this
      exact .ds0 _ _ _ (by omega)
    · let f : Nat → α := fun i => if hi : i < len then (each i hi).choose else (each 0 (by omega)).choose
      have hf : ∀ i, i < len → ∃ ec : List Value, S (f i) ∧ RCells w (Enc.enc 0 (f i)) ec ∧ ec.length = k ∧ ∀ j, j < k → (i * k + j = 0 → a.spot = none) ∧ a.block < w.heap.size ∧ w.cell? ⟨a.block, a.off + (i * k + j), none⟩ = some (ec.getD j undef) := fun i hi => by
        have := (each i hi).choose_spec
        simp only [f, dif_pos hi]
        exact this
      have hmax : cap ≤ 9223372036854775807 := hm
      refine ⟨(List.range len).map f, ⟨by simp; omega, fun y hy => ?_⟩, rfl, fun j hj => ?_⟩
      · obtain ⟨i, hi, rfl⟩ := List.mem_map.1 hy
        exact (hf i (List.mem_range.1 hi)).choose_spec.1
      · have : j = 0 := by simp at hj; omega
        subst this
        obtain ⟨_, _, _, _, hsp⟩ := hf 0 (by omega)
        obtain ⟨sp0, blt, _⟩ := hsp 0 h0
        have sp0 := sp0 (by omega)
        obtain ⟨blk, off, spt⟩ := a
        simp only at sp0 blt
        subst sp0
        have hlen2 : (((List.range len).map f).map (Enc.enc 0)).length = len := by simp
        have hg : ∀ i, i < len → (((List.range len).map f).map (Enc.enc 0)).getD i .any = Enc.enc 0 (f i) := fun i hi => by simp [hi]
        have key := R.ds (I := fun b => b < w.heap.size) (J := fun _ => False) (rf := fun _ => none) (w := w) 0 (((List.range len).map f).map (Enc.enc 0)) blk off cap k
          (fun p => (w.cell? ⟨blk, off + p, none⟩).getD undef) (by omega) (.inl blt) (fun h => by rw [h] at hlen2; simp at hlen2; omega)
          (fun i hi => by
            rw [hlen2] at hi
            obtain ⟨ec, _, s2, s3, _⟩ := hf i hi
            rw [hg i hi]
            rw [← s3]; exact s2.1)
          (fun p hp => by
            rw [hlen2] at hp
            have hi : p / k < len := Nat.div_lt_of_lt_mul (by rw [Nat.mul_comm]; exact hp)
            obtain ⟨ec, _, _, _, s4⟩ := hf (p / k) hi
            have := (s4 (p % k) (Nat.mod_lt _ h0)).2.2
            rw [show p / k * k + p % k = p from by rw [Nat.mul_comm]; exact Nat.div_add_mod p k] at this
            simp only at this
            rw [this]; rfl)
          (fun i j hi hj => by
            rw [hlen2] at hi
            obtain ⟨ec, _, s2, s3, s4⟩ := hf i hi
            rw [hg i hi]
            have h1 := (s4 j hj).2.2
            simp only at h1
            rw [h1]
            exact s2.2 j (by omega))
          (by rw [hlen2]; exact hl) (by omega)
        rw [hlen2] at key
        exact key
end Go.Ev
namespace Go.Ev
open Go Go.RowKit Go.Ev.Enc Go.WideShapes Go.ChangeShapes
variable [Gl] [Lit]

variable {P : Program}

theorem trodAll_stays (hl : laidOutB P = true) {H : Type} {enc : TypeId × Value → H} {W W' : World} (hb : Below W.heap.size W W') :
    ∀ {ts : List TypeId} {vs : List Value} {ds : List (DataW H)} {ps : List MemPlace}, (∀ t ∈ ts, P.readableRec t = true ∧ t < P.types.size) → (∀ p ∈ ps, p.block < W.heap.size) →
      DataW.TrodAll enc P W 0 (fun _ => true) true ts vs ds ps → DataW.TrodAll enc P W' 0 (fun b => decide (b < W.heap.size)) true ts vs ds ps
  | [], [], [], _, _, _, h => h
  | [], _ :: _, _, _, _, _, h => h.elim
  | [], [], _ :: _, _, _, _, h => h.elim
  | _ :: _, [], _, _, _, _, h => h.elim
  | _ :: _, _ :: _, [], _, _, _, h => h.elim
  | t :: ts, v :: vs, d :: ds, ps, hr, hlt, h => by
    obtain ⟨p, q, ⟨fuel, h1⟩, h2, rfl⟩ := h
    have ht := hr t (by simp)
    have hp : ∀ x ∈ p, x.block < W.heap.size := fun x hx => hlt x (by simp [hx])
    exact ⟨p, q, ⟨fuel, DataW.trod_stays (kids_book hl ht.1) (book_sized ht.1) (fun h => by cases h) ⟨ht.2, book_self t⟩ h1 (fun x hx => hb.same (hp x hx)) (fun x hx => by simpa using hp x hx)⟩,
      trodAll_stays hl hb (fun u hu => hr u (by simp [hu])) (fun x hx => hlt x (by simp [hx])) h2, rfl⟩

def ArgOpens (P : Program) (t : TypeId) {α : Type} [Enc α] (S : α → Prop) : Prop :=
  ∀ (H : Type) (enc : TypeId × Value → H) (w : World) (base b0 : Nat) (sp : Nat → Bool) (held : Bool) (v : Value) (d : DataW H) (ps : List MemPlace),
    Value.okWide P w .any b0 t v → DataW.Trod enc P w base sp held t v d ps → ∃ a : α, S a ∧ RIn w (Enc.enc 0 a) v

theorem Opens.argS {t : TypeId} {fs : Array Field} {α : Type} [Enc α] {S : α → Prop} (ht : P.underlying t = some (.struct fs)) (hagg : ∀ a : α, ∃ l, Enc.enc 0 a = AV.agg l) (h : Opens P t (α := α) S) : ArgOpens P t S := by
  intro H enc w base b0 sp held v d ps hv ⟨fuel, hd⟩
  simp only [Value.okWide, ht] at hv
  obtain ⟨cs, rfl, hsz, _⟩ := hv
  obtain ⟨a, s, hr⟩ := h H enc w base sp held fuel _ _ hd
  obtain ⟨l, hl⟩ := hagg a
  refine ⟨a, s, ?_⟩
  rw [hl] at hr ⊢
  obtain ⟨h1, h2⟩ := hr
  have hc : (Value.agg cs).cells.toList = cs.toList := rfl
  rw [hc] at h1 h2
  have h1' : cs.size = l.length := by simpa [AV.cells] using h1.symm
  refine .agg l cs h1' fun i hi => ?_
  have := h2 i (by simpa [h1'] using hi)
  have e : cs.toList.getD i undef = cs.getD i undef := by simp [Array.getD_eq_getD_getElem?]
  rw [e] at this
  exact this

theorem opens_pair {t : TypeId} {f0 f1 : Field} {α β γ : Type} [Enc α] [Enc β] [Enc γ] {S : α → Prop} {T : β → Prop} {U : γ → Prop} (ht : P.underlying t = some (.struct #[f0, f1]))
    (hsz : P.cellsOf t = 2) (o0 : f0.offset = 0) (o1 : f1.offset = 1) (k0 : P.cellsOf f0.type = 1) (k1 : P.cellsOf f1.type = 1) (h0 : Opens P f0.type (α := α) S) (h1 : Opens P f1.type (α := β) T)
    (hmk : ∀ a b, S a → T b → ∃ c : γ, U c ∧ (Enc.enc 0 c : AV) = .agg ((Enc.enc 0 a : AV).cells ++ (Enc.enc 0 b : AV).cells)) : Opens P t (α := γ) U := by
  intro H enc w base sp held fuel cs x h
  obtain ⟨y0, y1, n, _, hl, g0, g1⟩ := trod_struct2 ht h
  rw [hsz] at hl
  match cs, hl with
  | [c0, c1], _ =>
    rw [o0, k0] at g0
    rw [o1, k1] at g1
    obtain ⟨a, s0, r0⟩ := h0 H enc w base sp held n [c0] _ g0
    obtain ⟨b, s1, r1⟩ := h1 H enc w base sp held n [c1] _ g1
    obtain ⟨c, u, hc⟩ := hmk a b s0 s1
    refine ⟨c, u, ?_⟩
    rw [hc]
    have l0 : (Enc.enc 0 a : AV).cells.length = 1 := r0.1
    have l1 : (Enc.enc 0 b : AV).cells.length = 1 := r1.1
    match hx : (Enc.enc 0 a : AV).cells, l0 with
    | [x0], _ =>
      match hy : (Enc.enc 0 b : AV).cells, l1 with
      | [x1], _ =>
        refine ⟨rfl, fun j hj => ?_⟩
        match j, hj with
        | 0, _ => have := r0.2 0 (by simp); rw [hx] at this; exact this
        | 1, _ => have := r1.2 0 (by simp); rw [hy] at this; exact this

theorem law_callsG {f : FuncId} {xs : List AV} (h : CSpec P f xs (.bool true)) {W : World} {args : Array Value} (hl : args.size = xs.length) (hx : ∀ i, i < xs.length → RIn W (xs.getD i .any) (args.getD i undef))
    (hG : GOKw (fun b => b < W.heap.size) W) : Calls P f args W fun e W' => e = .returned (.bool true) ∧ Below W.heap.size W W' :=
  (h (fun b => b < W.heap.size) W args hl hx (fun _ h => h) hG).mono fun e W' ⟨v, J', he, hb, _, hr⟩ => ⟨by rw [he, hr.bool_inv], hb⟩
def upd (S : FuncId → Option (List AV → Option AV)) (f : FuncId) (F : List AV → Option AV) : FuncId → Option (List AV → Option AV) := fun g => if g = f then some F else S g
theorem Sound.none : Sound P (fun _ => Option.none) := ⟨fun _ _ h => by simp at h, fun _ _ _ _ h => by simp at h⟩
theorem Sound.add {S : FuncId → Option (List AV → Option AV)} {f : FuncId} {F : List AV → Option AV} (h : Sound P S) (hc : CanCall P f) (hs : ∀ a r, F a = some r → CSpec P f a r) : Sound P (upd S f F) := by
  refine ⟨fun g G hg => ?_, fun g G a r hg hr => ?_⟩
  · unfold upd at hg
    split at hg
    · rename_i e; subst e; exact hc
    · exact h.can g G hg
  · unfold upd at hg
    split at hg
    · rename_i e
      subst e
      have : F = G := Option.some.inj hg
      subst this
      exact hs a r hr
    · exact h.spec g G a r hg hr
end Go.Ev
namespace Go.Ev
open Go Go.RowKit
variable [Gl] [Lit]

variable {P : Program}


def renC (g : Nat → Option Nat) : AV → AV
  | .sl b ver off len cap => match g b with
    | some b' => .sl b' ver off len cap
    | none => .any
  | .nilS => .nilS
  | .int k n => .int k n
  | .bool b => .bool b
  | .str s => .str s
  | .nilP => .nilP
  | _ => .any
def renV (g : Nat → Option Nat) : AV → AV
  | .tup l => .tup (l.map (expE (renC g)))
  | x => expE (renC g) x
def renB (g : Nat → Option Nat) (k : Blk) : Blk := ⟨k.esz, k.l.map (expE (renC g))⟩
def gOf (sel : List Nat) (n b : Nat) : Option Nat := (sel.idxOf? b).map fun i => n + i

theorem renC_noAgg (g : Nat → Option Nat) : NoAgg (renC g) := by
  intro x l
  unfold renC
  split <;> (try split) <;> simp
theorem renB_len (g : Nat → Option Nat) (k : Blk) : (renB g k).l.length = k.l.length := by simp [renB]

section
variable {I J I' J' : Nat → Prop} {rf rf' : Nat → Option E} {w : World} {g : Nat → Option Nat} (hg : ∀ b b' e, g b = some b' → rf b = some e → rf' b' = some e)
include hg
theorem renC_sound {x : AV} {v : Value} (h : R I J rf w x v) : R I' J' rf' w (renC g x) v := by
  unfold renC
  split
  · split
    · rename_i b' hb
      cases h with
      | sl _ _ _ _ _ _ e a0 a1 a2 a3 => exact .sl _ _ _ _ _ _ e a0 (hg _ _ _ hb a1) a2 a3
    · exact .any _
  · cases h with | nilS a => exact .nilS a
  · cases h with | int => exact .int _ _
  · cases h with | bool => exact .bool _
  · cases h with | str => exact .str _
  · cases h with | nilP => exact .nilP
  · exact .any _
theorem renE_sound {x : AV} {v : Value} (h : R I J rf w x v) : R I' J' rf' w (expE (renC g) x) v := by
  unfold expE
  split
  · cases h with
    | agg l arr h1 h2 =>
      refine .agg _ _ (by simp [h1]) fun i hi => ?_
      rw [List.length_map] at hi
      rw [map_getD _ _ _ hi]
      exact renC_sound hg (h2 i hi)
  · exact renC_sound hg h
theorem renV_sound {x : AV} {v : Value} (h : R I J rf w x v) : R I' J' rf' w (renV g x) v := by
  unfold renV
  split
  · cases h with
    | tup l arr h1 h2 =>
      refine .tup _ _ (by simp [h1]) fun i hi => ?_
      rw [List.length_map] at hi
      rw [map_getD _ _ _ hi]
      exact renE_sound hg (h2 i hi)
  · exact renE_sound hg h
end

def OSpec (P : Program) (f : FuncId) (args : List AV) (r : Nat → AV) (N : Nat → List Blk) : Prop :=
  ∀ (L : List Blk) (xs : List AV), xs.map (exp 0 L) = args → ISpec P f xs L (fun v L' => v = r L.length ∧ L' = L ++ N L.length)

def OwnQ (r : Nat → AV) (N : Nat → List Blk) (rv : AV) (Lf : List Blk) : Prop :=
  ∃ sel : List Nat, sel.Nodup ∧ (∀ b ∈ sel, b < Lf.length) ∧ (∀ n, r n = renV (gOf sel n) rv) ∧ ∀ n, N n = sel.map fun b => renB (gOf sel n) (Lf.getD b ⟨0, []⟩)

theorem idxOf?_some {sel : List Nat} {b i : Nat} (h : sel.idxOf? b = some i) : sel[i]? = some b := by
  induction sel generalizing i with
  | nil => simp at h
  | cons a l ih =>
    rw [List.idxOf?_cons] at h
    split at h
    · rename_i hab
      simp at h hab
      subst h hab
      rfl
    · cases hl : l.idxOf? b with
      | none => rw [hl] at h; simp at h
      | some j =>
        rw [hl] at h
        simp at h
        subst h
        simpa using ih hl

theorem OSpec.intro {f : FuncId} {fn : Func} {c : Code} (hf : P.funcs[f]? = some fn) (hb : fn.body = some c) {args : List AV} {r : Nat → AV} {N : Nat → List Blk}
    (h : AW P c (DoneQ P fn (OwnQ r N)) ⟨args ++ List.replicate (fn.ntmps - args.length) .any, []⟩) : OSpec P f args r N := by
  intro L xs hxs V w vs hr hl hx
  let I' : Nat → Prop := fun x => V.I x ∨ V.J x ∨ ∃ (b : Nat) (e : Nat × Nat × Nat), V.m[b]? = some e ∧ e.1 = x
  have hlt : ∀ x, I' x → x < w.heap.size := fun x hx => by
    rcases hx with h | h | ⟨b, e, h, rfl⟩
    · exact hr.Ilt x h
    · exact (hr.Jlt x h).2
    · exact hr.blt h
  let V0 : Vw := ⟨w.heap.size, I', fun _ => False, []⟩
  have hrel : Rel V0 [] w := ⟨rfl, by simp, by simp [V0], by simp [V0], hlt, fun _ h => h.elim, Nat.le_refl _, by simp, hr.glob.mono (fun x h => .inl h) fun _ _ => rfl⟩
  have hrf : rfOf V0.m [] = fun _ => none := by funext b; simp [rfOf]
  have hs := initS (args := args) (vs := vs) hrel (by rw [← hxs]; simpa using hl) (fun i hi => by
    rw [← hxs, List.length_map] at hi
    rw [hrf, ← hxs, map_getD _ _ _ hi]
    exact exp_sound hr 0 (by omega) (fun x h => .inl (.inl h)) (fun x h => .inl (.inr (.inl h))) (fun b e h => .inl (.inr (.inr ⟨b, e, h, rfl⟩))) (fun _ _ h => h) (by simp) (by simp) _ _ (hx i hi)) fn.ntmps
  refine calls_of_wp hf hb (wp_mono (h V0 _ w hs) ?_)
  rintro e a' w' ⟨s', V', h1, h2, h3⟩
  have fin : (∃ rv, resA P fn s' = some rv ∧ OwnQ r N rv s'.L) → a'.defers = [] ∧ ∃ v, (results fn a'.tmps).run P w' = .ok v w' ∧
      ∃ u r' L' V', Ending.returned v = .returned u ∧ (r' = r L.length ∧ L' = L ++ N L.length) ∧ Rel V' L' w' ∧ Step V w V' w' ∧ rfExt (rfOf V.m L) (rfOf V'.m L') ∧ R V'.I V'.J (rfOf V'.m L') w' r' u := by
    rintro ⟨rv, k1, sel, n1, n2, n3, n4⟩
    obtain ⟨u, g1, g2⟩ := resA_sound h2 k1
    have hB : V'.B = w.heap.size := h3.1.B
    have hkeep : ∀ x, x < w.heap.size → w'.heap[x]? = w.heap[x]? := fun x hx => (h3.1.keep x hx (by simp [V0])).1
    have hsz := h3.1.size
    let m2 := sel.map fun b => V'.m.getD b (0, 0, 0)
    let V2 : Vw := ⟨V.B, V.I, V.J, V.m ++ m2⟩
    have hm2 : ∀ (i : Nat) (x : Nat × Nat × Nat), m2[i]? = some x → ∃ b : Nat, sel[i]? = some b ∧ V'.m[b]? = some x := by
      intro i x hx
      simp only [m2, List.getElem?_map, Option.map_eq_some_iff] at hx
      obtain ⟨b, hb, rfl⟩ := hx
      have hbl := n2 b (List.mem_of_getElem? hb)
      have : b < V'.m.length := by rw [h2.rel.len]; exact hbl
      exact ⟨b, hb, by simp [this]⟩
    have hfr : ∀ (i : Nat) (x : Nat × Nat × Nat), m2[i]? = some x → w.heap.size ≤ x.1 := by
      intro i x hx
      obtain ⟨b, _, hb⟩ := hm2 i x hx
      have := (h2.rel.fresh b x hb).1
      omega
    have hst : Step V w V2 w' := by
      refine ⟨rfl, rfl, fun _ h => h, fun x hx hm => ⟨hkeep x hx, fun b e he => ?_, fun h => h⟩, hsz, h3.1.os, h3.1.tape, h3.1.output⟩
      simp only [V2, List.getElem?_append] at he
      split at he
      · exact hm b e he
      · have := hfr _ _ he; omega
    have hext : rfExt (rfOf V.m L) (rfOf V2.m (L ++ N L.length)) := rfExt_append hr.len
    have hg : ∀ b b' e, gOf sel L.length b = some b' → rfOf V'.m s'.L b = some e → rfOf V2.m (L ++ N L.length) b' = some e := by
      intro b b' e hb he
      simp only [gOf, Option.map_eq_some_iff] at hb
      obtain ⟨i, hi, rfl⟩ := hb
      have hsi := idxOf?_some hi
      unfold rfOf at he
      split at he
      · rename_i k x hk hx
        have hx2 : m2[i]? = some x := by simp [m2, hsi, hx]
        have hk2 : (N L.length)[i]? = some (renB (gOf sel L.length) k) := by rw [n4]; simp [hsi, hk]
        have e1 : V2.m[L.length + i]? = some x := by
          show (V.m ++ m2)[L.length + i]? = _
          rw [List.getElem?_append_right (by rw [hr.len]; omega), hr.len, Nat.add_sub_cancel_left]; exact hx2
        have e2 : (L ++ N L.length)[L.length + i]? = some (renB (gOf sel L.length) k) := by
          rw [List.getElem?_append_right (by omega), Nat.add_sub_cancel_left]; exact hk2
        unfold rfOf
        rw [e1, e2]
        simp only [renB_len]
        exact he
      · simp at he
    refine ⟨h2.defers, u, g1, u, _, _, V2, rfl, ⟨rfl, rfl⟩, ⟨?_, ?_, ?_, ?_, ?_, ?_, ?_, ?_, hr.globS hst⟩, hst, hext, ?_⟩
    · simp [V2, m2, hr.len, n4]
    · intro b k x hk hx
      simp only [V2, List.getElem?_append] at hk hx
      by_cases hbl : b < L.length
      · rw [if_pos hbl] at hk
        rw [if_pos (by rw [hr.len]; exact hbl)] at hx
        obtain ⟨c, ty, a1, a2, a3, a4, a5⟩ := hr.blk b k x hk hx
        exact ⟨c, ty, by rw [hkeep _ (hr.blt hx)]; exact a1, a2, a3, a4, fun i j hi hj => (a5 i j hi hj).step hr hst hext⟩
      · rw [if_neg hbl] at hk
        rw [if_neg (by rw [hr.len]; exact hbl), hr.len] at hx
        obtain ⟨b0, hb0, hx0⟩ := hm2 _ _ hx
        rw [n4] at hk
        simp only [List.getElem?_map, hb0, Option.map_some, Option.some.injEq] at hk
        subst hk
        have hbl := n2 b0 (List.mem_of_getElem? hb0)
        obtain ⟨c, ty, a1, a2, a3, a4, a5⟩ := h2.rel.blk b0 s'.L[b0] x (List.getElem?_eq_getElem hbl) hx0
        have hgd : s'.L.getD b0 ⟨0, []⟩ = s'.L[b0] := by simp [hbl]
        rw [hgd]
        refine ⟨c, ty, a1, a2, by rw [renB_len]; exact a3, fun i hi => ?_, fun i j hi hj => ?_⟩
        · rw [renB_len] at hi
          simp only [renB]
          rw [map_getD _ _ _ hi, (renC_noAgg _).cells, List.length_map]
          exact a4 i hi
        · rw [renB_len] at hi
          simp only [renB] at hj ⊢
          have := a4 i hi
          rw [map_getD _ _ _ hi, (renC_noAgg _).cells, map_getD _ _ _ (by omega)]
          exact renC_sound hg (a5 i j hi hj)
    · intro b x hx
      simp only [V2, List.getElem?_append] at hx
      split at hx
      · exact hr.fresh b x hx
      · have := hfr _ _ hx
        refine ⟨by have := hr.Bsz; show V.B ≤ _; omega, fun hi => ?_, fun hj => ?_⟩
        · have := hr.Ilt _ hi; omega
        · have := (hr.Jlt _ hj).2; omega
    · intro b b' x x' hx hx' hxx
      simp only [V2, List.getElem?_append] at hx hx'
      split at hx
      · split at hx'
        · exact hr.inj b b' x x' hx hx' hxx
        · have := hfr _ _ hx'; have := hr.blt hx; omega
      · split at hx'
        · have := hfr _ _ hx; have := hr.blt hx'; omega
        · obtain ⟨c, hc, hxc⟩ := hm2 _ _ hx
          obtain ⟨c', hc', hxc'⟩ := hm2 _ _ hx'
          have := h2.rel.inj c c' x x' hxc hxc' hxx
          subst this
          have := (List.getElem?_inj (by exact (List.getElem?_eq_some_iff.1 hc).1) n1).1 (hc.trans hc'.symm)
          rw [hr.len] at *
          omega
    · exact fun x h => Nat.lt_of_lt_of_le (hr.Ilt x h) hsz
    · exact fun x h => ⟨(hr.Jlt x h).1, Nat.lt_of_lt_of_le (hr.Jlt x h).2 hsz⟩
    · exact Nat.le_trans hr.Bsz hsz
    · intro b k x hk hx hz
      simp only [V2, List.getElem?_append] at hk hx
      by_cases hbl : b < L.length
      · rw [if_pos hbl] at hk
        rw [if_pos (by rw [hr.len]; exact hbl)] at hx
        exact hr.big b k x hk hx hz
      · rw [if_neg hbl] at hk
        rw [if_neg (by rw [hr.len]; exact hbl), hr.len] at hx
        obtain ⟨b0, hb0, hx0⟩ := hm2 _ _ hx
        rw [n4] at hk
        simp only [List.getElem?_map, hb0, Option.map_some, Option.some.injEq] at hk
        subst hk
        have hbl := n2 b0 (List.mem_of_getElem? hb0)
        have hgd : s'.L.getD b0 ⟨0, []⟩ = s'.L[b0] := by simp [hbl]
        rw [hgd] at hz
        exact h2.rel.big b0 s'.L[b0] x (List.getElem?_eq_getElem hbl) hx0 hz
    · rw [n3]; exact renV_sound hg g2
  cases e with
  | normal =>
    obtain ⟨d1, v, d2, d3⟩ := fin h1
    exact ⟨d1, v, d2, d3⟩
  | ret =>
    obtain ⟨d1, v, d2, d3⟩ := fin h1
    exact ⟨d1, v, d2, d3⟩
  | _ => exact h1.elim

theorem OSpec.cspec {f : FuncId} {args : List AV} {r : Nat → AV} {N : Nat → List Blk} (h : OSpec P f args r N) (ha : args.map (exp 0 []) = args) {q : AV} (hown : Own q) (hq : exp 1 (N 0) (r 0) = q) : CSpec P f args q := by
  intro I w vs hl hx hI hG
  let V : Vw := ⟨w.heap.size, I, fun _ => False, []⟩
  have hrel : Rel V [] w := ⟨rfl, by simp, by simp [V], by simp [V], hI, fun _ h => h.elim, Nat.le_refl _, by simp, hG⟩
  have hrf : rfOf V.m [] = fun _ => none := by funext b; simp [rfOf]
  refine (h [] args ha V w vs hrel hl (fun i hi => by rw [hrf]; exact hx i hi)).mono ?_
  rintro e w' ⟨v, r', L', V', rfl, ⟨rfl, rfl⟩, h2, h3, h4, g2⟩
  have hB : V'.B = w.heap.size := h3.B
  refine ⟨v, fun x => V'.J x ∨ ∃ (b : Nat) (e : Nat × Nat × Nat), V'.m[b]? = some e ∧ e.1 = x, rfl, ⟨h3.os, h3.tape, h3.output, h3.size, fun k hk => (h3.keep k hk (by simp [V])).1⟩, fun x hx => ?_, ?_⟩
  · rcases hx with hx | ⟨b, e, he, rfl⟩
    · have := h2.Jlt x hx; omega
    · have := (h2.fresh b e he).1; have := h2.blt he; omega
  · have := exp_sound (I' := V'.I) (J' := fun x => V'.J x ∨ ∃ (b : Nat) (e : Nat × Nat × Nat), V'.m[b]? = some e ∧ e.1 = x) (rf' := fun _ => none) (L0 := [] ++ N ([] : List Blk).length) h2 1 (by omega) (fun x hx => .inl hx) (fun x hx => .inr (.inl hx)) (fun b e he => .inr (.inr ⟨b, e, he, rfl⟩)) (fun _ _ h => h)
        (fun _ x hx => .inl hx) (fun _ b e he => .inr ⟨b, e, he, rfl⟩) _ v g2
    rw [show exp 1 ([] ++ N ([] : List Blk).length) (r ([] : List Blk).length) = q from hq] at this
    exact this.own hown

def hide (S : FuncId → Option (List AV → Option AV)) (f : FuncId) : FuncId → Option (List AV → Option AV) := fun g => if g = f then none else S g
theorem Sound.hide {S : FuncId → Option (List AV → Option AV)} (h : Sound P S) (f : FuncId) : Sound P (hide S f) := by
  refine ⟨fun g F hg => ?_, fun g F a r hg => ?_⟩ <;> unfold Go.Ev.hide at hg <;> split at hg
  · simp at hg
  · exact h.can g F hg
  · simp at hg
  · exact h.spec g F a r hg

theorem set_same {L : List Blk} {b : Nat} {k : Blk} (h : L[b]? = some k) : L.set b k = L := by
  apply List.ext_getElem?
  intro i
  rw [getElem?_set']
  split
  · rename_i hi; subst hi; rw [if_pos (List.getElem?_eq_some_iff.1 h).1, h]
  · rfl


variable {Sg Sd : FuncId → Option (List AV → Option AV)}
def vc2 (P : Program) (Sg Sd : FuncId → Option (List AV → Option AV)) : Code → (Exit → St → Prop) → St → Prop
  | .skip, Q, s => Q .normal s
  | .label _, Q, s => Q .normal s
  | .ret, Q, s => Q .ret s
  | .exit id, Q, s => Q (.exit id) s
  | .seq a b, Q, s => vc2 P Sg Sd a (thenA (vc2 P Sg Sd b Q) Q) s
  | .cond c a b, Q, s => condQ (s.ρ c) (vc2 P Sg Sd a Q) (vc2 P Sg Sd b Q) s
  | .block id c, Q, s => vc2 P Sg Sd c (blockA id Q) s
  | .region _ ops true, Q, s => RegQ ops (runQ P Sd s.L.length ops ops.toList (Q .normal) s)
  | .region _ ops false, Q, s => InlQ P Sg ops ops.toList (Q .normal) s
  | .loop c, Q, s => LoopQ (vc2 P Sg Sd c) Q s
  | _, _, _ => False

theorem vc2_skip {Q : Exit → St → Prop} {s : St} : vc2 P Sg Sd .skip Q s = Q .normal s := rfl
theorem vc2_label {l : Nat} {Q : Exit → St → Prop} {s : St} : vc2 P Sg Sd (.label l) Q s = Q .normal s := rfl
theorem vc2_ret {Q : Exit → St → Prop} {s : St} : vc2 P Sg Sd .ret Q s = Q .ret s := rfl
theorem vc2_exit {id : Nat} {Q : Exit → St → Prop} {s : St} : vc2 P Sg Sd (.exit id) Q s = Q (.exit id) s := rfl
theorem vc2_seq {a b : Code} {Q : Exit → St → Prop} {s : St} : vc2 P Sg Sd (.seq a b) Q s = vc2 P Sg Sd a (thenA (vc2 P Sg Sd b Q) Q) s := rfl
theorem vc2_cond {c : Operand} {a b : Code} {Q : Exit → St → Prop} {s : St} : vc2 P Sg Sd (.cond c a b) Q s = condQ (s.ρ c) (vc2 P Sg Sd a Q) (vc2 P Sg Sd b Q) s := rfl
theorem vc2_block {id : Nat} {c : Code} {Q : Exit → St → Prop} {s : St} : vc2 P Sg Sd (.block id c) Q s = vc2 P Sg Sd c (blockA id Q) s := rfl
theorem vc2_draw {id : Nat} {l : List Oper} {Q : Exit → St → Prop} {s : St} : vc2 P Sg Sd (.region id l.toArray true) Q s = RegQ l.toArray (runQ P Sd s.L.length l.toArray l (Q .normal) s) := rfl
theorem vc2_inl {id : Nat} {l : List Oper} {Q : Exit → St → Prop} {s : St} : vc2 P Sg Sd (.region id l.toArray false) Q s = InlQ P Sg l.toArray l (Q .normal) s := rfl
theorem vc2_loop {c : Code} {Q : Exit → St → Prop} {s : St} : vc2 P Sg Sd (.loop c) Q s = LoopQ (vc2 P Sg Sd c) Q s := rfl
attribute [go_sem] vc2_skip vc2_label vc2_ret vc2_exit vc2_seq vc2_cond vc2_block vc2_draw vc2_inl vc2_loop

theorem OSpec.call {f : FuncId} {args : List AV} {r : Nat → AV} {N : Nat → List Blk} (h : OSpec P f args r N) {K : AV → List Blk → Prop} {L : List Blk} {xs : List AV} (hx : xs.map (exp 0 L) = args) (hk : K (r L.length) (L ++ N L.length)) : ISpec P f xs L K :=
  (h L xs hx).mono fun _ _ ⟨h1, h2⟩ => by rw [h1, h2]; exact hk

end Go.Ev
namespace Go.Ev
open Go Go.RowKit
variable [Gl] [Lit]

variable {P : Program} {Sg : FuncId → Option (List AV → Option AV)} {ops : Array Oper}


def cls' : Op → Nat
  | .buildSlice t len parts => if len = 0 then cls (.buildSlice t len parts) else if litB parts = true then 3 else 0
  | op => cls op
theorem cls'_or (op : Op) : cls' op = cls op ∨ (∃ t len parts, op = .buildSlice t len parts ∧ len ≠ 0 ∧ ((litB parts = false ∧ cls' op = 0) ∨ cls' op = 3)) := by
  cases op
  case buildSlice t len parts =>
    by_cases h : len = 0
    · left; simp [cls', h]
    · right
      refine ⟨t, len, parts, rfl, h, ?_⟩
      cases hb : litB parts <;> simp [cls', h, hb]
  all_goals exact .inl rfl
theorem cls0' {op : Op} (hc : cls' op = 0) {n0 : Nat} {ρ : Operand → AV} {L L' : List Blk} {v : AV} (h : evD P Sg n0 ρ L op = some (v, L')) :
    L' = L ∧ ∀ n1 L2, evD P Sg n1 ρ L2 op = some (v, L2) := by
  rcases cls'_or op with e | ⟨t, len, parts, rfl, hl, hlit⟩
  · exact cls0 (e ▸ hc) h
  · have hlit : litB parts = false := by rcases hlit with hlit | hlit; exact hlit.1; omega
    have e : ∀ n1 L2, evD P Sg n1 ρ L2 (.buildSlice t len parts) = match P.underlying t with
        | some (.slice e) => (match tzero P e, tsize P e with
          | some z, some sz => if z.cells.length = sz ∧ len * sz ≤ 16777216 ∧ 0 < sz then
              (fillE sz (List.replicate len z) (parts.toList.map fun p => (p.1, ρ p.2))).map (fun l => (.ds 2 l, L2)) else none
          | _, _ => none)
        | _ => none := fun n1 L2 => by
      simp only [evD, evP, evE, hl, hlit, if_false, Bool.false_eq_true]
      rfl
    rw [e] at h
    cases hu : P.underlying t with
    | none => rw [hu] at h; simp at h
    | some u =>
      rw [hu] at h
      cases u with
      | slice el =>
        simp only at h
        cases hz : tzero P el with
        | none => rw [hz] at h; simp at h
        | some z =>
          cases hs : tsize P el with
          | none => rw [hz, hs] at h; simp at h
          | some sz =>
            rw [hz, hs] at h
            simp only at h
            split at h
            · rename_i hcd
              simp only [Option.map_eq_some_iff, Prod.mk.injEq] at h
              obtain ⟨l, h1, rfl, rfl⟩ := h
              refine ⟨rfl, fun n1 L2 => ?_⟩
              rw [e, hu]
              simp only [hz, hs, if_pos hcd, h1, Option.map_some]
            · simp at h
      | _ => simp at h
theorem cls1' {op : Op} (hc : cls' op = 1) {n0 : Nat} {ρ : Operand → AV} {L L' : List Blk} {v : AV} (hn : n0 ≤ L.length) (h : evD P Sg n0 ρ L op = some (v, L')) :
    L' = L ∧ ∀ ext, evD P Sg n0 ρ (L ++ ext) op = some (v, L ++ ext) := by
  rcases cls'_or op with e | ⟨_, _, _, _, _, e⟩
  · exact cls1 (e ▸ hc) hn h
  · omega
theorem cls2' {op : Op} (hc : cls' op = 2) {n0 : Nat} {ρ : Operand → AV} {L L' : List Blk} {v : AV} (h : evD P Sg n0 ρ L op = some (v, L')) : ∃ ext, L' = L ++ ext := by
  rcases cls'_or op with e | ⟨_, _, _, _, _, e⟩
  · exact cls2 (e ▸ hc) h
  · omega
def indepOps' (ops : Array Oper) (j i : Nat) : Bool :=
  match ops[j]?, ops[i]? with
  | some oj, some oi => oj.apart ops oi && oi.apart ops oj && indep (cls' oj.op) (cls' oi.op)
  | _, _ => false

theorem diamond' {n0 : Nat} {j i : Nat} {s s1 s2 : St} (hn : n0 ≤ s.L.length) (hi : indepOps' ops j i = true) (h1 : stepD P Sg n0 ops j s = some s1) (h2 : stepD P Sg n0 ops i s1 = some s2) :
    ∃ s1', stepD P Sg n0 ops i s = some s1' ∧ stepD P Sg n0 ops j s1' = some s2 := by
  unfold indepOps' at hi
  split at hi
  · rename_i oj oi hoj hoi
    simp only [Bool.and_eq_true] at hi
    obtain ⟨⟨hap, hap'⟩, hcl⟩ := hi
    obtain ⟨a1, a2, a3⟩ := Oper.apart_spec hap
    obtain ⟨b1, b2, b3⟩ := Oper.apart_spec hap'
    unfold stepD at h1 h2 ⊢
    simp only [hoj] at h1
    simp only [hoi] at h2 ⊢
    split at h1
    · rename_i bj hwj
      -- what i wants is the same before j
      have wi : ∀ (v : AV) (L : List Blk), wantedA ops (AV.put s.t oj.dst v) oi = wantedA ops s.t oi := fun v L => wantedA_put a1
      have wj : ∀ (v : AV), wantedA ops (AV.put s.t oi.dst v) oj = wantedA ops s.t oj := fun v => wantedA_put b1
      have ci : ∀ (v : AV) (L L2 : List Blk), evD P Sg n0 (St.ρ ⟨AV.put s.t oj.dst v, L⟩) L2 oi.op = evD P Sg n0 s.ρ L2 oi.op := fun v L L2 => evD_congr (ρ_put a1)
      have cj : ∀ (v : AV) (L L2 : List Blk), evD P Sg n0 (St.ρ ⟨AV.put s.t oi.dst v, L⟩) L2 oj.op = evD P Sg n0 s.ρ L2 oj.op := fun v L L2 => evD_congr (ρ_put b1)
      cases bj with
      | false =>
        simp only [Bool.false_eq_true, if_false, Option.some.injEq] at h1
        subst h1
        simp only at h2
        rw [wi _ []] at h2
        split at h2
        · rename_i bi hwi
          cases bi with
          | false =>
            simp only [Bool.false_eq_true, if_false, Option.some.injEq] at h2 ⊢
            subst h2
            refine ⟨_, rfl, ?_⟩
            simp only [hoj, wj, hwj, Bool.false_eq_true, if_false, put_comm b2]
          | true =>
            simp only [if_true, Option.map_eq_some_iff] at h2 ⊢
            obtain ⟨r, hr, rfl⟩ := h2
            rw [ci] at hr
            refine ⟨_, ⟨r, hr, rfl⟩, ?_⟩
            simp only [hoj, wj, hwj, Bool.false_eq_true, if_false, put_comm b2]
        · simp at h2
      | true =>
        simp only [if_true, Option.map_eq_some_iff] at h1
        obtain ⟨rj, hrj, rfl⟩ := h1
        obtain ⟨vj, Lj⟩ := rj
        simp only at h2
        rw [wi _ []] at h2
        split at h2
        · rename_i bi hwi
          cases bi with
          | false =>
            simp only [Bool.false_eq_true, if_false, Option.some.injEq] at h2 ⊢
            subst h2
            refine ⟨_, rfl, ?_⟩
            simp only [hoj, wj, hwj, if_true]
            rw [cj, hrj]
            simp only [Option.map_some, put_comm b2]
          | true =>
            simp only [if_true, Option.map_eq_some_iff] at h2 ⊢
            obtain ⟨ri, hri, rfl⟩ := h2
            rw [ci] at hri
            obtain ⟨vi, Li⟩ := ri
            have fin : ∀ L1, evD P Sg n0 s.ρ s.L oi.op = some (vi, L1) → evD P Sg n0 s.ρ L1 oj.op = some (vj, Li) →
                ∃ s1', (∃ a, evD P Sg n0 s.ρ s.L oi.op = some a ∧ (⟨AV.put s.t oi.dst a.1, a.2⟩ : St) = s1') ∧
                  (match ops[j]? with
                    | none => none
                    | some o => match wantedA ops s1'.t o with
                      | some b => if b = true then Option.map (fun r => (⟨AV.put s1'.t o.dst r.1, r.2⟩ : St)) (evD P Sg n0 s1'.ρ s1'.L o.op) else some ⟨AV.put s1'.t o.dst (.tup []), s1'.L⟩
                      | none => none) = some ⟨AV.put (AV.put s.t oj.dst vj) oi.dst vi, Li⟩ := by
              intro L1 e1 e2
              refine ⟨_, ⟨_, e1, rfl⟩, ?_⟩
              simp only [hoj, wj, hwj, if_true]
              rw [cj, e2]
              simp only [Option.map_some, put_comm b2]
            by_cases hcj0 : cls' oj.op = 0
            · obtain ⟨rfl, k2⟩ := cls0' hcj0 hrj
              exact fin Li hri (k2 _ _)
            · by_cases hci0 : cls' oi.op = 0
              · obtain ⟨rfl, k2⟩ := cls0' hci0 hri
                exact fin s.L (k2 _ _) hrj
              · have hcj1 : cls' oj.op = 1 := by
                  unfold indep at hcl
                  simp [hcj0, hci0] at hcl
                  exact hcl.1
                obtain ⟨rfl, k2⟩ := cls1' hcj1 hn hrj
                unfold indep at hcl
                simp [hcj1, hci0] at hcl
                rcases hcl with hcl | hcl
                · obtain ⟨rfl, _⟩ := cls1' hcl hn hri
                  exact fin _ hri hrj
                · obtain ⟨ext, rfl⟩ := cls2' hcl hri
                  exact fin _ hri (k2 ext)
        · simp at h2
    · simp at h1
  · simp at hi


def stepR (P : Program) (Sg : FuncId → Option (List AV → Option AV)) (n0 : Nat) (ops : Array Oper) (o : Oper) (t : List AV) (L : List Blk) : Option (AV × List Blk) :=
  match wantedA ops t o with
  | some b => if b then evD P Sg n0 (St.ρ ⟨t, L⟩) L o.op else some (.tup [], L)
  | none => none
theorem stepD_eq {n0 : Nat} {i : Nat} {o : Oper} (ho : ops[i]? = some o) (s : St) : stepD P Sg n0 ops i s = (stepR P Sg n0 ops o s.t s.L).map fun r => ⟨AV.put s.t o.dst r.1, r.2⟩ := by
  unfold stepD stepR
  simp only [ho]
  cases wantedA ops s.t o with
  | none => rfl
  | some b => cases b <;> rfl
theorem stepR_put {n0 : Nat} {o : Oper} {t : List AV} {L : List Blk} {dst : Option Tmp} {v : AV} (h : ∀ d, dst = some d → d ∉ o.looksAt ops) : stepR P Sg n0 ops o (AV.put t dst v) L = stepR P Sg n0 ops o t L := by
  unfold stepR
  rw [wantedA_put h, evD_congr (ρ_put (s := ⟨t, L⟩) (L := L) h)]

def CQ (P : Program) (Sg : FuncId → Option (List AV → Option AV)) (n0 : Nat) (ops : Array Oper) (s : St) (o : Oper) (K : AV → List Blk → Prop) : Prop :=
  wantQ (wantedA ops s.t o) fun b => if b = true then opQ (evD P Sg n0 s.ρ s.L o.op) (InlK P s o) K else K (.tup []) s.L
theorem opQ_mono {o : Option (AV × List Blk)} {inl inl' : (AV → List Blk → Prop) → Prop} {K K' : AV → List Blk → Prop} (hi : inl K → inl' K') (hk : ∀ v L, K v L → K' v L) (h : opQ o inl K) : opQ o inl' K' := by
  cases o with
  | none => exact hi h
  | some r => exact hk _ _ h
theorem InlK.mono {s : St} {o : Oper} {K K' : AV → List Blk → Prop} (hk : ∀ v L, K v L → K' v L) (h : InlK P s o K) : InlK P s o K' := by
  obtain ⟨x, args, ts, f, caps, h1, h2, h3, h4⟩ := h
  exact ⟨x, args, ts, f, caps, h1, h2, h3, fun V w vs a b c => (h4 V w vs a b c).mono fun e w' ⟨v, r, L', V', p1, p2, p3⟩ => ⟨v, r, L', V', p1, hk _ _ p2, p3⟩⟩
theorem CQ.mono {n0 : Nat} {s : St} {o : Oper} {K K' : AV → List Blk → Prop} (hk : ∀ v L, K v L → K' v L) (h : CQ P Sg n0 ops s o K) : CQ P Sg n0 ops s o K' := by
  unfold CQ at *
  cases hw : wantedA ops s.t o with
  | none => rw [hw] at h; exact h.elim
  | some b =>
    rw [hw] at h
    cases b with
    | true => exact opQ_mono (InlK.mono hk) hk h
    | false => exact hk _ _ h

def dpB (ops : Array Oper) (i j : Nat) : Bool := ((masks [] ops.toList).getD i 0).testBit j
theorem dpB_path {i j : Nat} (h : dpB ops i j = true) : Path ops i j := by
  unfold dpB at h
  cases hm : (masks [] ops.toList)[i]? with
  | none => simp [List.getD_eq_getElem?_getD, hm] at h
  | some m =>
    simp [List.getD_eq_getElem?_getD, hm] at h
    exact masks_path ops.toList [] (by simp) (by simp) i m hm j h
theorem dpB_no {i j : Nat} (h : ¬ Path ops i j) : dpB ops i j = false := by
  cases hd : dpB ops i j with
  | false => rfl
  | true => exact absurd (dpB_path hd) h
def RunN (P : Program) (Sg : FuncId → Option (List AV → Option AV)) (n0 : Nat) (ops : Array Oper) (cs late : List Nat) (K : St → Prop) : List Nat → St → Prop
  | [], s => K s
  | i :: r, s => if i ∈ cs then
      ∃ o, ops[i]? = some o ∧ CQ P Sg n0 ops s o fun v L' => s.L.length ≤ L'.length ∧ (∀ j ∈ late, j ∉ r → dpB ops i j = false → stepD P Sg n0 ops j ⟨s.t, L'⟩ = some ⟨s.t, L'⟩) ∧ RunN P Sg n0 ops cs late K r ⟨AV.put s.t o.dst v, L'⟩
    else ∃ s1, stepD P Sg n0 ops i s = some s1 ∧ RunN P Sg n0 ops cs late K r s1

def FrP (ops : Array Oper) (j m : Nat) : Prop := ∀ oj om, ops[j]? = some oj → ops[m]? = some om → ∀ d, om.dst = some d → d ∉ oj.looksAt ops ∧ oj.dst ≠ some d

theorem runN_take {n0 : Nat} {cs late : List Nat} {K : St → Prop} {i : Nat} (hic : i ∉ cs) : ∀ (rem : List Nat) (s : St), n0 ≤ s.L.length → i ∈ rem → rem.Nodup → (∀ j ∈ rem.takeWhile (· != i), j ∉ cs ∧ indepOps' ops j i = true) → RunN P Sg n0 ops cs late K rem s →
    ∃ s', stepD P Sg n0 ops i s = some s' ∧ RunN P Sg n0 ops cs late K (rem.erase i) s'
  | [], _, _, hi, _, _, _ => by simp at hi
  | j :: rest, s, hn, hi, hnd, hind, h => by
    by_cases hji : j = i
    · subst hji
      unfold RunN at h
      rw [if_neg hic] at h
      obtain ⟨s1, h1, h2⟩ := h
      exact ⟨s1, h1, by simpa using h2⟩
    · have hi' : i ∈ rest := by
        rcases List.mem_cons.1 hi with h | h
        · exact absurd h.symm hji
        · exact h
      have hjt : (j != i) = true := by simpa using hji
      have hj := hind j (by simp [hjt])
      unfold RunN at h
      rw [if_neg hj.1] at h
      obtain ⟨s1, h1, h2⟩ := h
      obtain ⟨s2, g1, g2⟩ := runN_take hic rest s1 (Nat.le_trans hn (stepD_len h1)) hi' (List.nodup_cons.1 hnd).2 (fun k hk => hind k (by simp [hjt, hk])) h2
      obtain ⟨s1', d1, d2⟩ := diamond' hn hj.2 h1 g1
      refine ⟨s1', d1, ?_⟩
      rw [List.erase_cons_tail (by simpa using hji)]
      unfold RunN
      rw [if_neg hj.1]
      exact ⟨s2, d2, g2⟩

theorem put_put (t : List AV) (d : Option Tmp) (v u : AV) : AV.put (AV.put t d v) d u = AV.put t d u := by
  cases d with
  | none => rfl
  | some d => exact List.set_set _
theorem put_back {t : List AV} {x y : Option Tmp} {v u : AV} (h : ∀ d, y = some d → x ≠ some d) (he : AV.put (AV.put t y v) x u = AV.put t y v) : AV.put t x u = t := by
  cases x with
  | none => rfl
  | some d =>
    cases y with
    | none => exact he
    | some e =>
      have hne : e ≠ d := fun hde => h e rfl (by rw [hde])
      simp only [AV.put] at he ⊢
      apply List.ext_getElem?
      intro i
      have h1 := congrArg (·[i]?) he
      simp only [getElem?_set', List.length_set] at h1 ⊢
      by_cases hi : d = i
      · subst hi
        rw [if_pos rfl, if_neg hne] at h1
        rw [if_pos rfl]; exact h1
      · rw [if_neg hi]

def lateC (ops : Array Oper) (c j : Nat) : Prop := ∀ oj oc, ops[j]? = some oj → ops[c]? = some oc → (cls' oj.op = 0 ∨ cls' oj.op = 1) ∧ oj.apart ops oc = true ∧ (∀ d, oj.dst = some d → d ∉ oj.looksAt ops)

theorem InlK_put {s : St} {o : Oper} {K : AV → List Blk → Prop} {dst : Option Tmp} {v : AV} (h : ∀ d, dst = some d → d ∉ o.looksAt ops) (hi : InlK P ⟨AV.put s.t dst v, s.L⟩ o K) : InlK P s o K := by
  obtain ⟨x, args, ts, f, caps, hop, hx, hc, hs⟩ := hi
  have hρ := ρ_put (s := s) (L := s.L) (v := v) h
  have hm : ∀ y, (y = x ∨ y ∈ args) → St.ρ ⟨AV.put s.t dst v, s.L⟩ y = s.ρ y := fun y hy => hρ y (by rw [hop]; rcases hy with rfl | hy <;> simp [Op.operands, Call.operands, *])
  refine ⟨x, args, ts, f, caps, hop, (hm x (.inl rfl)) ▸ hx, hc, ?_⟩
  have : args.toList.map (St.ρ ⟨AV.put s.t dst v, s.L⟩) = args.toList.map s.ρ := List.map_congr_left fun y hy => hm y (.inr (by simpa using hy))
  rw [this] at hs
  exact hs
theorem CQ_put {n0 : Nat} {s : St} {o : Oper} {K : AV → List Blk → Prop} {dst : Option Tmp} {v : AV} (h : ∀ d, dst = some d → d ∉ o.looksAt ops) (hi : CQ P Sg n0 ops ⟨AV.put s.t dst v, s.L⟩ o K) : CQ P Sg n0 ops s o K := by
  unfold CQ at *
  simp only [wantedA_put h] at hi
  cases hw : wantedA ops s.t o with
  | none => rw [hw] at hi; exact hi.elim
  | some b =>
    rw [hw] at hi
    cases b with
    | true =>
      simp only [wantQ_t, if_true] at hi ⊢
      rw [evD_congr (ρ_put (s := s) (L := s.L) h)] at hi
      exact opQ_mono (InlK_put h) (fun _ _ k => k) hi
    | false => exact hi

theorem runN_call {n0 c : Nat} {cs late : List Nat} {K : St → Prop} (hcc : c ∈ cs) : ∀ (rem : List Nat) (s : St), n0 ≤ s.L.length → c ∈ rem → rem.Nodup → (∀ j ∈ rem.takeWhile (· != c), j ∉ cs ∧ j ∈ late ∧ lateC ops c j ∧ dpB ops c j = false) →
    rem.Pairwise (fun j m => j ∈ late → FrP ops j m) → (∀ m ∈ late, m ∉ rem → ∀ j ∈ rem, FrP ops m j) → RunN P Sg n0 ops cs late K rem s →
    ∃ o, ops[c]? = some o ∧ CQ P Sg n0 ops s o fun v L' => s.L.length ≤ L'.length ∧ (∀ m ∈ late, m ∉ rem → dpB ops c m = false → stepD P Sg n0 ops m ⟨s.t, L'⟩ = some ⟨s.t, L'⟩) ∧ RunN P Sg n0 ops cs late K (rem.erase c) ⟨AV.put s.t o.dst v, L'⟩
  | [], _, _, hi, _, _, _, _, _ => by simp at hi
  | j :: rest, s, hn, hi, hnd, hlate, hfr, hfr2, h => by
    by_cases hji : j = c
    · subst hji
      unfold RunN at h
      rw [if_pos hcc] at h
      obtain ⟨o, h1, h2⟩ := h
      refine ⟨o, h1, h2.mono fun v L' hk => ?_⟩
      obtain ⟨a1, a2, a3⟩ := hk
      exact ⟨a1, fun m hm hmr hmd => a2 m hm (fun h => hmr (by simp [h])) hmd, by simpa using a3⟩
    · have hi' : c ∈ rest := by
        rcases List.mem_cons.1 hi with h | h
        · exact absurd h.symm hji
        · exact h
      have hjt : (j != c) = true := by simpa using hji
      obtain ⟨hjcs, hjl, hjc, hjd⟩ := hlate j (by simp [hjt])
      unfold RunN at h
      rw [if_neg hjcs] at h
      obtain ⟨s1, h1, h2⟩ := h
      have hnd' := List.nodup_cons.1 hnd
      have hfr' := List.pairwise_cons.1 hfr
      have hlen : s.L.length ≤ s1.L.length := stepD_len h1
      obtain ⟨o, g1, g4⟩ := runN_call hcc rest s1 (Nat.le_trans hn hlen) hi' hnd'.2 (fun k hk => hlate k (by simp [hjt, hk])) hfr'.2 (fun m hm hmr k hk => by
        by_cases hmj : m = j
        · subst hmj; exact hfr'.1 k hk hm
        · exact hfr2 m hm (by simp [hmj, hmr]) k (by simp [hk])) h2
      have hoj : ∃ oj, ops[j]? = some oj := by
        unfold stepD at h1
        cases ho : ops[j]? with
        | none => rw [ho] at h1; simp at h1
        | some oj => exact ⟨oj, rfl⟩
      obtain ⟨oj, hoj⟩ := hoj
      obtain ⟨c1, c2, c3⟩ := hjc oj o hoj g1
      obtain ⟨p1, p2, p3⟩ := Oper.apart_spec c2
      rw [stepD_eq hoj] at h1
      simp only [Option.map_eq_some_iff] at h1
      obtain ⟨⟨vj, Lj⟩, h1, rfl⟩ := h1
      have hL : Lj = s.L := by
        unfold stepR at h1
        split at h1
        · split at h1
          · rcases c1 with c1 | c1
            · exact (cls0' c1 h1).1
            · exact (cls1' c1 hn h1).1
          · simp at h1; exact h1.2.symm
        · simp at h1
      subst hL
      refine ⟨o, g1, (CQ_put p1 g4).mono fun v L' hk => ?_⟩
      obtain ⟨a1, a2, a3⟩ := hk
      refine ⟨a1, fun m hm hmr hmd => ?_, ?_⟩
      · have hmr' : m ∉ rest := fun h => hmr (by simp [h])
        have hmj : m ≠ j := fun h => hmr (by simp [h])
        have hst := a2 m hm hmr' hmd
        cases hom : ops[m]? with
        | none => unfold stepD at hst; rw [hom] at hst; simp at hst
        | some om =>
          rw [stepD_eq hom] at hst ⊢
          have hf := hfr2 m hm hmr j (by simp) om oj hom hoj
          simp only at hst ⊢
          rw [stepR_put (fun d hd => (hf d hd).1)] at hst
          simp only [Option.map_eq_some_iff] at hst ⊢
          obtain ⟨⟨u, Lu⟩, e1, e2⟩ := hst
          simp only [St.mk.injEq] at e2
          obtain ⟨e2, rfl⟩ := e2
          exact ⟨_, e1, by rw [put_back (fun d hd => (hf d hd).2) e2]⟩
      · have hst := a2 j hjl hnd'.1 hjd
        rw [List.erase_cons_tail (by simpa using hji)]
        unfold RunN
        rw [if_neg hjcs]
        refine ⟨_, ?_, a3⟩
        rw [stepD_eq hoj] at hst ⊢
        simp only at hst ⊢
        rw [stepR_put c3] at hst
        rw [stepR_put p3]
        simp only [Option.map_eq_some_iff] at hst ⊢
        obtain ⟨⟨u, Lu⟩, e1, e2⟩ := hst
        simp only [St.mk.injEq] at e2
        obtain ⟨e2, rfl⟩ := e2
        refine ⟨_, e1, ?_⟩
        simp only at e2 ⊢
        rw [put_put] at e2
        rw [put_comm (fun d hd => fun h => p2 d h hd), e2]

def pairB (ops : Array Oper) (cs late ms : List Nat) (j i : Nat) : Bool :=
  match ops[j]?, ops[i]? with
  | some oj, some oi =>
    !(oj.after.toList.any fun e => Region.binds .any e && e.on == i) &&
    ((!late.contains j || (match oi.dst with
      | some d => !(oj.looksAt ops).contains d && oj.dst != some d
      | none => true)) &&
    ((ms.getD i 0).testBit j || (!cs.contains j && (if cs.contains i then late.contains j && ((cls' oj.op == 0 || cls' oj.op == 1) && (oj.apart ops oi && (match oj.dst with
      | some d => !(oj.looksAt ops).contains d
      | none => true))) else indepOps' ops j i))))
  | _, _ => false
def pwB (ops : Array Oper) (cs late ms : List Nat) : List Nat → Bool
  | [] => true
  | j :: r => r.all (pairB ops cs late ms j) && pwB ops cs late ms r
def anyOK (ops : Array Oper) (cs late ord : List Nat) : Bool :=
  decide ord.Nodup && (decide (ord.length = ops.size) && (ord.all (fun i => decide (i < ops.size)) && (((List.range ops.size).all fun i => (ops.getD i default).after.all fun e => !Region.binds .any e || (decide (e.on < ops.size) && e.on != i)) &&
    (late.all (fun m => !cs.contains m && decide (m < ops.size)) && ((List.range ops.size).all (fun i => ord.contains i) && pwB ops cs late (masks [] ops.toList) ord)))))

theorem pwB_pw {cs late ms : List Nat} : ∀ {l : List Nat}, pwB ops cs late ms l = true → l.Pairwise fun j i => pairB ops cs late ms j i = true
  | [], _ => .nil
  | j :: r, h => by
    simp only [pwB, Bool.and_eq_true, List.all_eq_true] at h
    exact .cons h.1 (pwB_pw h.2)
theorem pw_or {R : Nat → Nat → Prop} : ∀ {l : List Nat}, l.Pairwise R → ∀ {a b}, a ∈ l → b ∈ l → a ≠ b → R a b ∨ R b a
  | [], _, a, b, ha, _, _ => by simp at ha
  | x :: l, h, a, b, ha, hb, hab => by
    obtain ⟨h1, h2⟩ := List.pairwise_cons.1 h
    rcases List.mem_cons.1 ha with rfl | ha'
    · rcases List.mem_cons.1 hb with rfl | hb'
      · exact absurd rfl hab
      · exact .inl (h1 b hb')
    · rcases List.mem_cons.1 hb with rfl | hb'
      · exact .inr (h1 a ha')
      · exact pw_or h2 ha' hb' hab
theorem pw_take {R : Nat → Nat → Prop} {i : Nat} : ∀ (l : List Nat), l.Pairwise R → i ∈ l → ∀ j ∈ l.takeWhile (· != i), R j i
  | [], _, hi, _, _ => by simp at hi
  | k :: l, hp, hi, j, hj => by
    rw [List.takeWhile_cons] at hj
    split at hj
    · rename_i hk
      have hki : k ≠ i := by simpa using hk
      have hi' : i ∈ l := (List.mem_cons.1 hi).resolve_left fun h => hki h.symm
      rcases List.mem_cons.1 hj with h | h
      · subst h; exact (List.pairwise_cons.1 hp).1 i hi'
      · exact pw_take l (List.pairwise_cons.1 hp).2 hi' j h
    · simp at hj
structure PairP (ops : Array Oper) (cs late : List Nat) (j i : Nat) : Prop where
  dep : ∀ oj, ops[j]? = some oj → ∀ e ∈ oj.after, Region.binds .any e = true → e.on ≠ i
  fr : j ∈ late → FrP ops j i
  sw : Path ops i j ∨ (j ∉ cs ∧ ((i ∈ cs ∧ j ∈ late ∧ lateC ops i j) ∨ (i ∉ cs ∧ indepOps' ops j i = true)))
theorem pairP_of {cs late : List Nat} {j i : Nat} (h : pairB ops cs late (masks [] ops.toList) j i = true) : PairP ops cs late j i := by
  unfold pairB at h
  split at h
  · rename_i oj oi hoj hoi
    simp only [Bool.and_eq_true] at h
    obtain ⟨h1, h2, h3⟩ := h
    refine ⟨fun oj' ho' e he hb hei => ?_, fun hjl oj' oi' ho' hi' d hd => ?_, ?_⟩
    · rw [hoj] at ho'; cases ho'
      have : (oj.after.toList.any fun e => Region.binds .any e && e.on == i) = true := List.any_eq_true.2 ⟨e, by simpa using he, by simp [hb, hei]⟩
      rw [this] at h1; simp at h1
    · rw [hoj] at ho'; cases ho'
      rw [hoi] at hi'; cases hi'
      rw [List.contains_iff_mem.2 hjl, hd] at h2
      simpa using h2
    · simp only [Bool.or_eq_true] at h3
      rcases h3 with h3 | h3
      · left
        cases hm : (masks [] ops.toList)[i]? with
        | none => simp [List.getD_eq_getElem?_getD, hm] at h3
        | some m =>
          simp [List.getD_eq_getElem?_getD, hm] at h3
          exact masks_path ops.toList [] (by simp) (by simp) i m hm j h3
      · right
        simp only [Bool.and_eq_true, Bool.not_eq_true'] at h3
        have hjcs : j ∉ cs := fun hm => by
          have := List.contains_iff_mem.2 hm
          rw [this] at h3; simp at h3
        refine ⟨hjcs, ?_⟩
        by_cases hic : i ∈ cs
        · have h4 := h3.2
          rw [if_pos (List.contains_iff_mem.2 hic)] at h4
          simp only [Bool.and_eq_true] at h4
          obtain ⟨k1, k2, k3, k4⟩ := h4
          refine .inl ⟨hic, by simpa using k1, fun oj' oc' ho' hi' => ?_⟩
          rw [hoj] at ho'; cases ho'
          rw [hoi] at hi'; cases hi'
          refine ⟨by simpa using k2, k3, fun d hd => ?_⟩
          rw [hd] at k4; simpa using k4
        · have h4 := h3.2
          rw [if_neg (fun h => hic (List.contains_iff_mem.1 h))] at h4
          exact .inr ⟨hic, h4⟩
  · simp at h

theorem wpAny_of_runN (hP : PF P) (hS : Sound P Sg) {cs late ord : List Nat} (hok : anyOK ops cs late ord = true) {n0 : Nat} {Q : Exit → Act → World → Prop} {K : St → Prop} :
    ∀ (fuel : Nat) (listed : Array Bool) (rem : List Nat) (s : St) (V : Vw) (a : Act) (w : World), listed.size = ops.size →
      rem = ord.filter (fun k => !listed.getD k true) → rem.length = fuel →
      (∀ i o, ops[i]? = some o → listed.getD i true = true → ∀ e ∈ o.after, Region.binds .any e = true → listed.getD e.on false = true) →
      n0 ≤ s.L.length → RunN P Sg n0 ops cs late K rem s → RelS V s a w →
      (∀ sf a' w' V', K sf → RelS V' sf a' w' → SX V s.L w V' sf.L w' → Q .normal a' w') → wpAny P .any ops Q fuel listed a w := by
  have hok' := hok
  unfold anyOK at hok'
  simp only [Bool.and_eq_true, decide_eq_true_eq, List.all_eq_true, List.mem_range] at hok'
  obtain ⟨hndo, hlo, hlt0, hdep0, hl0, hall0, hpw0⟩ := hok'
  have hpw : ord.Pairwise (PairP ops cs late) := (pwB_pw hpw0).imp fun h => pairP_of h
  have hall : ∀ i, i < ops.size → i ∈ ord := fun i hi => by simpa using hall0 i hi
  have hdepr : ∀ i o, ops[i]? = some o → ∀ e ∈ o.after, Region.binds .any e = true → e.on < ops.size ∧ e.on ≠ i := by
    intro i o ho e he hb
    have hi : i < ops.size := (Array.getElem?_eq_some_iff.1 ho).1
    have := hdep0 i hi
    have e0 : ops.getD i default = o := by simp [Array.getD_eq_getD_getElem?, ho]
    rw [e0] at this
    have := Array.all_eq_true_iff_forall_mem.1 this e he
    simpa [hb] using this
  have hl1 : ∀ m ∈ late, m ∉ cs ∧ m < ops.size := fun m hm => by simpa using hl0 m hm
  intro fuel
  induction fuel with
  | zero =>
    intro listed rem s V a w hsz hrem hlen hdown hn hrun hrel hQ
    have hnil : rem = [] := List.eq_nil_of_length_eq_zero hlen
    subst hnil
    refine ⟨?_, hQ s a w V hrun hrel (.refl _ _ _)⟩
    cases hr : Region.ready .any ops listed with
    | nil => rfl
    | cons i l =>
      have hi : i ∈ Region.ready .any ops listed := by rw [hr]; simp
      obtain ⟨h0, o, ho, _⟩ := mem_ready.1 hi
      have hlt : i < ops.size := (Array.getElem?_eq_some_iff.1 ho).1
      have : i ∈ ord.filter (fun k => !listed.getD k true) := by simp only [List.mem_filter]; exact ⟨hall i hlt, by rw [h0]; rfl⟩
      rw [← hrem] at this
      simp at this
  | succ fuel ih =>
    intro listed rem s V a w hsz hrem hlen hdown hn hrun hrel hQ
    have hpr : rem.Pairwise (PairP ops cs late) := by rw [hrem]; exact hpw.filter _
    have hnd : rem.Nodup := by rw [hrem]; exact List.Pairwise.filter _ hndo
    have hmemr : ∀ k, k ∈ rem ↔ k ∈ ord ∧ listed.getD k true = false := fun k => by rw [hrem]; simp
    refine ⟨fun hr => ?_, fun i hi => ?_⟩
    · exfalso
      cases hr2 : rem with
      | nil => rw [hr2] at hlen; simp at hlen
      | cons k l =>
        have hk := (hmemr k).1 (by rw [hr2]; simp)
        have hks := hlt0 k hk.1
        have hkr : k ∈ Region.ready .any ops listed := by
          refine mem_ready.2 ⟨hk.2, ops[k], Array.getElem?_eq_getElem hks, fun e he hb => ?_⟩
          have h1 := (hdepr k _ (Array.getElem?_eq_getElem hks) e he hb).1
          have hel : e.on < listed.size := by omega
          cases hlm : listed.getD e.on true with
          | true => simpa [Array.getD_eq_getD_getElem?, hel] using hlm
          | false =>
            exfalso
            have hmem : e.on ∈ rem := (hmemr _).2 ⟨hall _ h1, hlm⟩
            rw [hr2] at hmem hpr
            rcases List.mem_cons.1 hmem with h | h
            · exact (hdepr k _ (Array.getElem?_eq_getElem hks) e he hb).2 h
            · exact ((List.pairwise_cons.1 hpr).1 _ h).dep _ (Array.getElem?_eq_getElem hks) e he hb rfl
        rw [hr] at hkr
        simp at hkr
    · obtain ⟨h0, o, ho, hallr⟩ := mem_ready.1 hi
      have hlt : i < ops.size := (Array.getElem?_eq_some_iff.1 ho).1
      have hmem : i ∈ rem := (hmemr i).2 ⟨hall i hlt, h0⟩
      have hpath : ∀ i' j, Path ops i' j → (∀ o', ops[i']? = some o' → ∀ e ∈ o'.after, Region.binds .any e = true → listed.getD e.on false = true) → listed.getD j false = true := by
        intro i' j hp
        induction hp with
        | edge h1 h2 h3 h4 => intro h; rw [← h4]; exact h _ h1 _ h2 h3
        | @more i'' j'' o'' e'' h1 h2 h3 h4 ih4 =>
          intro h
          have hl := h _ h1 _ h2 h3
          refine ih4 fun o' ho' e he hb => hdown _ _ ho' ?_ e he hb
          have : e''.on < listed.size := by
            rcases Nat.lt_or_ge e''.on listed.size with h | h
            · exact h
            · simp [Array.getD_eq_getD_getElem?, Array.getElem?_eq_none h] at hl
          simpa [Array.getD_eq_getD_getElem?, this] using hl
      have hno : ∀ j, j ∈ rem → listed.getD j false = true → False := by
        intro j hj hl
        have h1 := (hmemr j).1 hj
        have hjs : j < listed.size := by have := hlt0 j h1.1; omega
        simp [Array.getD_eq_getD_getElem?, hjs] at hl h1
        rw [hl] at h1
        simp at h1
      have hnp : ∀ j, j ∈ rem → ¬ Path ops i j := fun j hj hp => hno j hj (hpath i j hp (fun o' ho' e he hb => by rw [ho] at ho'; cases ho'; exact hallr e he hb))
      have hrem' : rem.erase i = ord.filter (fun k => !(listed.setIfInBounds i true).getD k true) := by
        rw [List.Nodup.erase_eq_filter hnd, hrem, List.filter_filter]
        apply List.filter_congr
        intro k hk
        by_cases hki : k = i
        · subst hki
          simp [Array.getD_eq_getD_getElem?, hsz, hlt]
        · rw [getD_set_ne true (fun h => hki h.symm)]
          simp [hki]
      have hnext : ∀ (s' : St) (a' : Act) (w' : World) (V' : Vw), n0 ≤ s'.L.length → RunN P Sg n0 ops cs late K (rem.erase i) s' → RelS V' s' a' w' → SX V s.L w V' s'.L w' → wpAny P .any ops Q fuel (listed.setIfInBounds i true) a' w' := fun s' a' w' V' d0 d2 g1 g2 =>
        ih (listed.setIfInBounds i true) (rem.erase i) s' V' a' w' (by simpa using hsz) hrem' (by rw [List.length_erase_of_mem hmem]; omega)
          (fun k ok hok1 hk e he hb => by
            by_cases hki : k = i
            · subst hki
              rw [ho] at hok1; cases hok1
              exact getD_set_true (hallr e he hb)
            · rw [getD_set_ne true (fun h => hki h.symm)] at hk
              exact getD_set_true (hdown k ok hok1 hk e he hb))
          d0 d2 g1 (fun sf a'' w'' V'' k0 k1 k2 => hQ sf a'' w'' V'' k0 k1 (g2.trans k2))
      unfold wpOp
      simp only [ho]
      by_cases hic : i ∈ cs
      · obtain ⟨o', r1, r4⟩ := runN_call (c := i) hic rem s hn hmem hnd (fun j hj => by
            have hjr : j ∈ rem := (List.takeWhile_prefix _).subset hj
            rcases (pw_take rem hpr hmem j hj).sw with h | ⟨hjc, h | h⟩
            · exact absurd h (hnp j hjr)
            · exact ⟨hjc, h.2.1, h.2.2, dpB_no (hnp j hjr)⟩
            · exact absurd hic h.1) (hpr.imp fun h => h.fr) (fun m hm hmr j hj => by
            obtain ⟨m1, m2⟩ := hl1 m hm
            have hmo := hall m m2
            have hjo := ((hmemr j).1 hj).1
            have hmj : m ≠ j := fun h => hmr (h ▸ hj)
            have hml : listed.getD m true = true := by
              cases h : listed.getD m true with
              | true => rfl
              | false => exact absurd ((hmemr m).2 ⟨hmo, h⟩) hmr
            rcases pw_or hpw hmo hjo hmj with h | h
            · exact h.fr hm
            · rcases h.sw with h | ⟨_, h | h⟩
              · exact (hno j hj (hpath m j h (fun o' ho' e he hb => hdown m o' ho' hml e he hb))).elim
              · exact absurd h.1 m1
              · have hi := h.2
                unfold indepOps' at hi
                intro oj om hoj hom d hd
                rw [hoj, hom] at hi
                simp only [Bool.and_eq_true] at hi
                obtain ⟨p1, p2, p3⟩ := Oper.apart_spec hi.1.1
                exact ⟨p1 d hd, p2 d hd⟩) hrun
        rw [ho] at r1; cases r1
        unfold CQ at r4
        cases hwa : wantedA ops s.t o with
        | none => rw [hwa] at r4; exact r4.elim
        | some b =>
          rw [hwa] at r4
          have hw := wanted_sound hrel hwa
          cases b with
          | true =>
            rw [if_pos hw]
            simp only [wantQ_t, if_true] at r4
            cases he : evD P Sg n0 s.ρ s.L o.op with
            | none =>
              rw [he] at r4
              exact .inl (inl_wp hrel r4 fun a' w' V' v L' k1 g1 g2 => by
                obtain ⟨q1, _, q3⟩ := k1
                exact hnext _ a' w' V' (Nat.le_trans hn q1) q3 g1 g2)
            | some r =>
              rw [he] at r4
              obtain ⟨v, L'⟩ := r
              obtain ⟨q1, _, q3⟩ := r4
              exact .inl (evD_wp hP hS hrel he fun a' w' V' g1 g2 => hnext _ a' w' V' (Nat.le_trans hn q1) q3 g1 g2)
          | false =>
            rw [if_neg (by simp [hw])]
            simp only [wantQ_f, Bool.false_eq_true, if_false] at r4
            obtain ⟨q1, _, q3⟩ := r4
            exact hnext ⟨AV.put s.t o.dst (.tup []), s.L⟩ _ w V hn q3 (hrel.put hrel.rel (.refl _ _) (.refl _) (.tup _ _ rfl (by simp)) o.dst) (.refl _ _ _)
      · obtain ⟨s', d1, d2⟩ := runN_take hic rem s hn hmem hnd (fun j hj => by
            have hjr : j ∈ rem := (List.takeWhile_prefix _).subset hj
            rcases (pw_take rem hpr hmem j hj).sw with h | ⟨hjc, h | h⟩
            · exact absurd h (hnp j hjr)
            · exact absurd h.1 hic
            · exact ⟨hjc, h.2⟩) hrun
        have hlen' := stepD_len d1
        unfold stepD at d1
        simp only [ho] at d1
        split at d1
        · rename_i b hb
          have hw := wanted_sound hrel hb
          cases b with
          | true =>
            rw [if_pos hw]
            simp only [if_true, Option.map_eq_some_iff] at d1
            obtain ⟨⟨v, L'⟩, e1, rfl⟩ := d1
            exact .inl (evD_wp hP hS hrel e1 fun a' w' V' g1 g2 => hnext _ a' w' V' (Nat.le_trans hn hlen') d2 g1 g2)
          | false =>
            rw [if_neg (by simp [hw])]
            simp only [Bool.false_eq_true, if_false, Option.some.injEq] at d1
            subst d1
            exact hnext ⟨AV.put s.t o.dst (.tup []), s.L⟩ _ w V hn d2 (hrel.put hrel.rel (.refl _ _) (.refl _) (.tup _ _ rfl (by simp)) o.dst) (.refl _ _ _)
        · simp at d1

end Go.Ev
namespace Go.Ev
open Go Go.RowKit
variable [Gl] [Lit]

variable {P : Program}


def selStep (g : Nat → Option Nat) (L : List Blk) (f : AV → AV) : AV → AV
  | .sl b ver off len cap => match g b with
    | some b' => .sl b' ver off len cap
    | none => match L[b]? with
      | some k => if k.l.length = ver ∧ off + len ≤ ver then .ds 1 (((k.l.drop off).take len).map (expE f)) else .any
      | none => .any
  | .ds tag l => .ds tag (l.map (expE f))
  | .nilS => .nilS
  | .int k m => .int k m
  | .bool b => .bool b
  | .str s => .str s
  | .nilP => .nilP
  | .ptr b ver i off => match g b with
    | some b' => .ptr b' ver i off
    | none => .any
  | .fn h caps => .fn h (caps.map f)
  | _ => .any
def selC (g : Nat → Option Nat) (L : List Blk) : AV → AV := selStep g L (selStep g L (selStep g L (selStep g L fun _ => .any)))
def selV (g : Nat → Option Nat) (L : List Blk) : AV → AV
  | .tup l => .tup (l.map (expE (selC g L)))
  | x => expE (selC g L) x
def selB (g : Nat → Option Nat) (L : List Blk) (k : Blk) : Blk := ⟨k.esz, k.l.map (expE (selC g L))⟩

theorem selStep_noAgg (g : Nat → Option Nat) (L : List Blk) (f : AV → AV) : NoAgg (selStep g L f) := by
  intro x l
  unfold selStep
  split <;> (try split) <;> (try split) <;> (try split) <;> simp
theorem selC_noAgg (g : Nat → Option Nat) (L : List Blk) : NoAgg (selC g L) := selStep_noAgg _ _ _

section
variable {V : Vw} {L : List Blk} {w : World} (hr : Rel V L w) {g : Nat → Option Nat} {rf' : Nat → Option E} {J2 : Nat → Prop}
  (hrf : ∀ b b' e, g b = some b' → rfOf V.m L b = some e → rf' b' = some e) (hJ : ∀ x, V.J x → J2 x) (hJ2 : ∀ (b : Nat) (e : Nat × Nat × Nat), g b = none → V.m[b]? = some e → J2 e.1)
include hr hrf hJ hJ2

theorem selStep_sound {f : AV → AV} (hf : ∀ x v, R V.I V.J (rfOf V.m L) w x v → R V.I J2 rf' w (f x) v) (hn : NoAgg f) (x : AV) (v : Value)
    (h : R V.I V.J (rfOf V.m L) w x v) : R V.I J2 rf' w (selStep g L f x) v := by
  unfold selStep
  split
  · rename_i b ver off len cap
    split
    · rename_i b' hbn
      cases h with
      | sl _ _ _ _ _ _ e a0 a1 a2 a3 => exact .sl b' ver off len cap v e a0 (hrf _ _ _ hbn a1) a2 a3
    · rename_i hbn
      split
      · rename_i k hk
        split
        · rename_i hc
          obtain ⟨hv, hle⟩ := hc
          obtain ⟨xm, hx, _⟩ := hr.entry hk
          obtain ⟨a, cap', rfl, c1, c2, c3, c4, c5⟩ := h.sl_inv hk hx hv
          have hnl : ((k.l.drop off).take len).length = len := by simp; omega
          by_cases h0 : len = 0
          · subst h0
            simp only [List.take_zero, List.map_nil]
            exact .ds0 _ _ _ (by omega)
          · obtain ⟨c, ty, d1, d2, d3, d4, d5⟩ := hr.blk b k xm hk hx
            rw [c3 (by omega)]
            have hg : ∀ i, i < len → ((k.l.drop off).take len).getD i .any = k.l.getD (off + i) .any := fun i hi => by
              simp only [List.getD_eq_getElem?_getD, List.getElem?_take, hi, if_true, List.getElem?_drop]
            have hmul : (off + len) * k.esz ≤ k.l.length * k.esz := Nat.mul_le_mul_right _ (by omega)
            rw [Nat.add_mul] at hmul
            have hlen2 : (((k.l.drop off).take len).map (expE f)).length = len := by rw [List.length_map]; exact hnl
            have hJx : J2 xm.1 := hJ2 b xm hbn hx
            have := R.ds (I := V.I) (J := J2) (rf := rf') (w := w) 1 (((k.l.drop off).take len).map (expE f)) xm.1 (xm.2.1 + off * k.esz) cap' k.esz (fun p => c.getD (xm.2.1 + off * k.esz + p) undef)
              (fun _ => hJx) (.inr hJx) (fun h => by rw [h] at hlen2; simp at hlen2; omega)
              (fun i hi => by
                rw [hlen2] at hi
                rw [map_getD _ _ _ (by omega), hn.cells, hg i hi, List.length_map]; exact d4 _ (by omega))
              (fun p hp => by
                rw [hlen2] at hp
                exact cell_of_block d1 (by omega))
              (fun i j hi hj => by
                rw [hlen2] at hi
                have hij := d4 (off + i) (by omega)
                rw [map_getD _ _ _ (by omega), hn.cells, hg i hi, map_getD _ _ _ (by omega)]
                have := hf _ _ (d5 (off + i) j (by omega) hj)
                rw [Nat.add_mul] at this
                rw [show xm.2.1 + off * k.esz + (i * k.esz + j) = xm.2.1 + (off * k.esz + i * k.esz) + j by omega]
                exact this) (by omega) (by omega)
            rw [hlen2] at this
            exact this
        · exact .any _
      · exact .any _
  · rename_i tag l
    cases h with
    | ds0 _ a cap a8 => exact .ds0 _ _ _ a8
    | ds _ _ b o cap esz vs a1 a2 a3 a4 a5 a6 a7 a8 =>
      have := R.ds (I := V.I) (J := J2) (rf := rf') (w := w) tag (l.map (expE f)) b o cap esz vs
        (fun h => hJ _ (a1 h)) (a2.imp id (hJ _)) (by simpa using a3)
        (fun i hi => by
          rw [List.length_map] at hi
          rw [map_getD _ _ _ hi, hn.cells, List.length_map]; exact a4 i hi)
        (fun p hp => by
          rw [List.length_map] at hp
          exact a5 p hp)
        (fun i j hi hj => by
          rw [List.length_map] at hi
          have hij := a4 i hi
          rw [map_getD _ _ _ hi, hn.cells, map_getD _ _ _ (by omega)]
          exact hf _ _ (a6 i j hi hj)) (by simpa using a7) (by simpa using a8)
      rw [List.length_map] at this
      exact this
  · cases h with
    | nilS a => exact .nilS a
  · rw [h.int_inv]; exact .int _ _
  · rw [h.bool_inv]; exact .bool _
  · rw [h.str_inv]; exact .str _
  · cases h; exact .nilP
  · rename_i b ver i off
    split
    · rename_i b' hbn
      cases h with
      | ptr _ _ _ _ _ e a0 a1 a2 a3 => exact .ptr b' ver i off v e a0 (hrf _ _ _ hbn a1) a2 a3
    · exact .any _
  · rename_i g caps
    cases h with
    | fn _ _ arr a1 a2 =>
      refine .fn _ _ _ (by simpa using a1) fun i hi => ?_
      rw [List.length_map] at hi
      rw [map_getD _ _ _ hi]
      exact hf _ _ (a2 i hi)
  · exact .any _

theorem selC_sound (x : AV) (v : Value) (h : R V.I V.J (rfOf V.m L) w x v) : R V.I J2 rf' w (selC g L x) v := by
  unfold selC
  refine selStep_sound hr hrf hJ hJ2 (fun x v h => ?_) (selStep_noAgg _ _ _) x v h
  refine selStep_sound hr hrf hJ hJ2 (fun x v h => ?_) (selStep_noAgg _ _ _) x v h
  refine selStep_sound hr hrf hJ hJ2 (fun x v h => ?_) (selStep_noAgg _ _ _) x v h
  exact selStep_sound hr hrf hJ hJ2 (fun x v _ => .any _) (fun x l => by simp) x v h

theorem selE_sound (x : AV) (v : Value) (h : R V.I V.J (rfOf V.m L) w x v) : R V.I J2 rf' w (expE (selC g L) x) v := by
  have hc := selC_sound hr hrf hJ hJ2
  unfold expE
  split
  · cases h with
    | agg l arr h1 h2 =>
      refine .agg _ _ (by simp [h1]) fun i hi => ?_
      rw [List.length_map] at hi
      rw [map_getD _ _ _ hi]
      exact hc _ _ (h2 i hi)
  · exact hc _ _ h

theorem selV_sound (x : AV) (v : Value) (h : R V.I V.J (rfOf V.m L) w x v) : R V.I J2 rf' w (selV g L x) v := by
  have hc := selE_sound hr hrf hJ hJ2
  unfold selV
  split
  · cases h with
    | tup l arr h1 h2 =>
      refine .tup _ _ (by simp [h1]) fun i hi => ?_
      rw [List.length_map] at hi
      rw [map_getD _ _ _ hi]
      exact hc _ _ (h2 i hi)
  · exact hc _ _ h
end

inductive Refs (q : Nat → Prop) : AV → Prop
  | any : Refs q .any
  | int (k n) : Refs q (.int k n)
  | bool (b) : Refs q (.bool b)
  | str (s) : Refs q (.str s)
  | nilS : Refs q .nilS
  | nilP : Refs q .nilP
  | ifc (b) : Refs q (.ifc b)
  | ds (tag l) : (∀ i j, i < l.length → j < (l.getD i .any).cells.length → Refs q ((l.getD i .any).cells.getD j .any)) → Refs q (.ds tag l)
  | sl (b ver off len cap) : q b → Refs q (.sl b ver off len cap)
  | ptr (b ver i off) : q b → Refs q (.ptr b ver i off)
  | agg (l) : (∀ i, i < l.length → Refs q (l.getD i .any)) → Refs q (.agg l)
  | tup (l) : (∀ i, i < l.length → Refs q (l.getD i .any)) → Refs q (.tup l)
  | dptr (l off) : (∀ i, i < l.length → Refs q (l.getD i .any)) → Refs q (.dptr l off)
  | fn (f l) : (∀ i, i < l.length → Refs q (l.getD i .any)) → Refs q (.fn f l)

theorem R.refs {I J : Nat → Prop} {rf : Nat → Option E} {w : World} {x : AV} {v : Value} (h : R I J rf w x v) : Refs (fun b => (rf b).isSome = true) x := by
  induction h with
  | any v => exact .any
  | int k n => exact .int k n
  | bool b => exact .bool b
  | str s => exact .str s
  | nilS a => exact .nilS
  | ds0 tag a cap h => exact .ds _ _ (by simp)
  | ds tag l blk o cap esz vs h1 h2 h3 h4 h5 _ h7 h8 ih => exact .ds _ _ fun i j hi hj => ih i j hi (by rw [← h4 i hi]; exact hj)
  | sl b ver off len cap v e h0 h1 => exact .sl _ _ _ _ _ (by simp [h1])
  | agg l arr h1 _ ih => exact .agg _ ih
  | tup l arr h1 _ ih => exact .tup _ ih
  | ptr b ver i off v e h0 h1 => exact .ptr _ _ _ _ (by simp [h1])
  | dptr l off blk o vs h1 h2 _ ih => exact .dptr _ _ ih
  | nilP => exact .nilP
  | ifcN => exact .ifc _
  | ifcS t p => exact .ifc _
  | fn f l arr h1 _ ih => exact .fn _ _ ih
theorem Refs.mono {q q' : Nat → Prop} (hq : ∀ b, q b → q' b) {x : AV} (h : Refs q x) : Refs q' x := by
  induction h with
  | any => exact .any
  | int k n => exact .int k n
  | bool b => exact .bool b
  | str s => exact .str s
  | nilS => exact .nilS
  | nilP => exact .nilP
  | ifc b => exact .ifc b
  | ds tag l _ ih => exact .ds _ _ ih
  | sl b ver off len cap h => exact .sl _ _ _ _ _ (hq _ h)
  | ptr b ver i off h => exact .ptr _ _ _ _ (hq _ h)
  | agg l _ ih => exact .agg _ ih
  | tup l _ ih => exact .tup _ ih
  | dptr l off _ ih => exact .dptr _ _ ih
  | fn f l _ ih => exact .fn _ _ ih

theorem R.re {I J I' J' : Nat → Prop} {rf rf' : Nat → Option E} {w : World} {q : Nat → Prop} (hI : ∀ x, I x → I' x) (hJ : ∀ x, J x → J' x) (hq : ∀ b, q b → rf' b = rf b) {x : AV} {v : Value} (h : R I J rf w x v) (hx : Refs q x) : R I' J' rf' w x v := by
  induction h with
  | any v => exact .any v
  | int k n => exact .int k n
  | bool b => exact .bool b
  | str s => exact .str s
  | nilS a => exact .nilS a
  | ds0 tag a cap h => exact .ds0 tag a cap h
  | ds tag l blk o cap esz vs h1 h2 h3 h4 h5 _ h7 h8 ih =>
    cases hx with
    | ds _ _ hc => exact .ds tag l blk o cap esz vs (fun h => hJ _ (h1 h)) (h2.imp (hI _) (hJ _)) h3 h4 h5 (fun i j hi hj => ih i j hi hj (hc i j hi (by rw [h4 i hi]; exact hj))) h7 h8
  | sl b ver off len cap v e h0 h1 h2 h3 =>
    cases hx with
    | sl _ _ _ _ _ hb => exact .sl b ver off len cap v e h0 (by rw [hq b hb]; exact h1) h2 h3
  | agg l arr h1 _ ih =>
    cases hx with
    | agg _ hc => exact .agg l arr h1 fun i hi => ih i hi (hc i hi)
  | tup l arr h1 _ ih =>
    cases hx with
    | tup _ hc => exact .tup l arr h1 fun i hi => ih i hi (hc i hi)
  | ptr b ver i off v e h0 h1 h2 h3 =>
    cases hx with
    | ptr _ _ _ _ hb => exact .ptr b ver i off v e h0 (by rw [hq b hb]; exact h1) h2 h3
  | dptr l off blk o vs h1 h2 _ ih =>
    cases hx with
    | dptr _ _ hc => exact .dptr l off blk o vs (h1.imp (hI _) (hJ _)) h2 fun j hj => ih j hj (hc j hj)
  | nilP => exact .nilP
  | ifcN => exact .ifcN
  | ifcS t p => exact .ifcS t p
  | fn f l arr h1 _ ih =>
    cases hx with
    | fn _ _ hc => exact .fn f l arr h1 fun i hi => ih i hi (hc i hi)

def ClosedB (k : Blk) : Prop := ∀ i j, i < k.l.length → j < (k.l.getD i .any).cells.length → Refs (fun _ => False) ((k.l.getD i .any).cells.getD j .any)
def gR (n : Nat) (sel : List Nat) (b : Nat) : Option Nat := if b < n then some b else (sel.idxOf? b).map fun i => n + i

def RetQ (L : List Blk) (K : AV → List Blk → Prop) (rv : AV) (Lf : List Blk) : Prop :=
  ∃ sel : List Nat, sel.Nodup ∧ (∀ b ∈ sel, L.length ≤ b ∧ b < Lf.length) ∧ L.length ≤ Lf.length ∧ (∀ b, b < L.length → Lf[b]? = L[b]? ∨ ∃ k, Lf[b]? = some k ∧ ClosedB k) ∧
    K (selV (gR L.length sel) Lf rv) (Lf.take L.length ++ sel.map fun b => selB (gR L.length sel) Lf (Lf.getD b ⟨0, []⟩))

theorem selB_len (g : Nat → Option Nat) (L : List Blk) (k : Blk) : (selB g L k).l.length = k.l.length := by simp [selB]

theorem ISpec.fin {f : FuncId} {args : List AV} {L : List Blk} {K : AV → List Blk → Prop} (h : ISpec P f args L (RetQ L K)) : ISpec P f args L K := by
  refine fun V w vs hr hl hx => (h V w vs hr hl hx).mono ?_
  rintro e w' ⟨v, rv, Lf, V', rfl, ⟨sel, n1, n2, n0, n3, n4⟩, h2, h3, h4, g2⟩
  let n := L.length
  let g := gR n sel
  let m2 := sel.map fun b => V'.m.getD b (0, 0, 0)
  let J2 : Nat → Prop := fun x => V'.J x ∨ ∃ (b : Nat) (e : Nat × Nat × Nat), g b = none ∧ V'.m[b]? = some e ∧ e.1 = x
  let V2 : Vw := ⟨V'.B, V'.I, J2, V'.m.take n ++ m2⟩
  let L2 := Lf.take n ++ sel.map fun b => selB g Lf (Lf.getD b ⟨0, []⟩)
  have hml : V'.m.length = Lf.length := h2.len
  have hm2 : ∀ (i : Nat) (x : Nat × Nat × Nat), m2[i]? = some x → ∃ b : Nat, sel[i]? = some b ∧ n ≤ b ∧ V'.m[b]? = some x := by
    intro i x hx
    simp only [m2, List.getElem?_map, Option.map_eq_some_iff] at hx
    obtain ⟨b, hb, rfl⟩ := hx
    have hbl := n2 b (List.mem_of_getElem? hb)
    have : b < V'.m.length := by rw [hml]; exact hbl.2
    exact ⟨b, hb, hbl.1, by simp [this]⟩
  have hgsel : ∀ (i b : Nat), sel[i]? = some b → g b = some (n + i) := by
    intro i b hi
    have hbn := (n2 b (List.mem_of_getElem? hi)).1
    show gR n sel b = _
    unfold gR
    rw [if_neg (by omega)]
    have hmem := List.mem_of_getElem? hi
    cases hx : sel.idxOf? b with
    | none => exact absurd hmem (by simpa using hx)
    | some j =>
      have hj := idxOf?_some hx
      have : i = j := (List.getElem?_inj (List.getElem?_eq_some_iff.1 hi).1 n1).1 (hi.trans hj.symm)
      rw [this]; rfl
  have hglt : ∀ b, b < n → g b = some b := fun b hb => by show gR n sel b = _; unfold gR; rw [if_pos hb]
  have hLn : (Lf.take n).length = n := by rw [List.length_take]; exact Nat.min_eq_left n0
  have hmn : (V'.m.take n).length = n := by rw [List.length_take, hml]; exact Nat.min_eq_left n0
  have hrlt : ∀ b, b < n → rfOf V2.m L2 b = rfOf V'.m Lf b := by
    intro b hb
    apply rfOf_congr
    · show (Lf.take n ++ _)[b]? = _
      rw [List.getElem?_append_left (by omega), List.getElem?_take, if_pos hb]
    · show (V'.m.take n ++ m2)[b]? = _
      rw [List.getElem?_append_left (by omega), List.getElem?_take, if_pos hb]
  have hrf : ∀ b b' e, g b = some b' → rfOf V'.m Lf b = some e → rfOf V2.m L2 b' = some e := by
    intro b b' e hb he
    by_cases hbn : b < n
    · rw [hglt b hbn] at hb
      cases hb
      rw [hrlt b hbn]; exact he
    · have hb' : gR n sel b = some b' := hb
      unfold gR at hb'
      rw [if_neg hbn] at hb'
      simp only [Option.map_eq_some_iff] at hb'
      obtain ⟨i, hi, rfl⟩ := hb'
      have hsi := idxOf?_some hi
      unfold rfOf at he
      split at he
      · rename_i k x hk hx
        have e1 : V2.m[n + i]? = some x := by
          show (V'.m.take n ++ m2)[n + i]? = _
          rw [List.getElem?_append_right (by omega), hmn, Nat.add_sub_cancel_left]
          simp [m2, hsi, hx]
        have e2 : L2[n + i]? = some (selB g Lf k) := by
          show (Lf.take n ++ _)[n + i]? = _
          rw [List.getElem?_append_right (by omega), hLn, Nat.add_sub_cancel_left]
          simp [hsi, hk]
        unfold rfOf
        rw [e1, e2]
        simp only [selB_len]
        exact he
      · simp at he
  have hJ : ∀ x, V'.J x → J2 x := fun x h => .inl h
  have hJ2 : ∀ (b : Nat) (e : Nat × Nat × Nat), g b = none → V'.m[b]? = some e → J2 e.1 := fun b e h1 h2 => .inr ⟨b, e, h1, h2, rfl⟩
  have hst : Step V' w' V2 w' := ⟨rfl, rfl, hJ, fun x _ hm => ⟨rfl, fun b e he => by
    simp only [V2, List.getElem?_append] at he
    split at he
    · rw [List.getElem?_take] at he
      split at he
      · exact hm b e he
      · simp at he
    · obtain ⟨b', _, _, hb'⟩ := hm2 _ _ he
      exact hm b' e hb', fun h => h.elim id fun ⟨b, e, _, he, hx⟩ => absurd hx (hm b e he)⟩, Nat.le_refl _, rfl, rfl, rfl⟩
  have hext : rfExt (rfOf V.m L) (rfOf V2.m L2) := by
    intro b e he
    obtain ⟨e', q1, q2, q3⟩ := h4 b e he
    exact ⟨e', by rw [hrlt b (rfOf_lt he)]; exact q1, q2, q3⟩
  have hrel2 : Rel V2 L2 w' := by
    refine ⟨?_, ?_, ?_, ?_, h2.Ilt, ?_, h2.Bsz, ?_, h2.glob⟩
    · show (V'.m.take n ++ m2).length = _
      simp [L2, m2, hml]
    · intro b k x hk hx
      by_cases hbn : b < n
      · have hk' : Lf[b]? = some k := by
          rw [← hk]; show _ = (Lf.take n ++ _)[b]?
          rw [List.getElem?_append_left (by omega), List.getElem?_take, if_pos hbn]
        have hx' : V'.m[b]? = some x := by
          rw [← hx]; show _ = (V'.m.take n ++ m2)[b]?
          rw [List.getElem?_append_left (by omega), List.getElem?_take, if_pos hbn]
        obtain ⟨c, ty, a1, a2, a3, a4, a5⟩ := h2.blk b k x hk' hx'
        refine ⟨c, ty, a1, a2, a3, a4, fun i j hi hj => ?_⟩
        have hcl : Refs (fun b => b < n) ((k.l.getD i .any).cells.getD j .any) := by
          rcases n3 b hbn with h | ⟨k', h, hc⟩
          · have hkL : L[b]? = some k := h ▸ hk'
            obtain ⟨x0, hx0, _⟩ := hr.entry hkL
            obtain ⟨c0, ty0, b1, b2, b3, b4, b5⟩ := hr.blk b k x0 hkL hx0
            exact (b5 i j hi hj).refs.mono fun b hb => by
              cases hq : rfOf V.m L b with
              | none => rw [hq] at hb; simp at hb
              | some e => exact rfOf_lt hq
          · rw [hk'] at h; cases h
            exact (hc i j hi (by rw [a4 i hi]; exact hj)).mono fun _ h => h.elim
        exact (a5 i j hi hj).re (fun _ h => h) hJ hrlt hcl
      · have hk' : (sel.map fun b => selB g Lf (Lf.getD b ⟨0, []⟩))[b - n]? = some k := by
          rw [← hk]; show _ = (Lf.take n ++ _)[b]?
          rw [List.getElem?_append_right (by omega), hLn]
        have hx' : m2[b - n]? = some x := by
          rw [← hx]; show _ = (V'.m.take n ++ m2)[b]?
          rw [List.getElem?_append_right (by omega), hmn]
        obtain ⟨b0, hb0, hbn0, hx0⟩ := hm2 _ _ hx'
        simp only [List.getElem?_map, hb0, Option.map_some, Option.some.injEq] at hk'
        subst hk'
        have hbl := (n2 b0 (List.mem_of_getElem? hb0)).2
        obtain ⟨c, ty, a1, a2, a3, a4, a5⟩ := h2.blk b0 Lf[b0] x (List.getElem?_eq_getElem hbl) hx0
        have hgd : Lf.getD b0 ⟨0, []⟩ = Lf[b0] := by simp [hbl]
        rw [hgd]
        refine ⟨c, ty, a1, a2, by rw [selB_len]; exact a3, fun i hi => ?_, fun i j hi hj => ?_⟩
        · rw [selB_len] at hi
          simp only [selB]
          rw [map_getD _ _ _ hi, (selC_noAgg _ _).cells, List.length_map]
          exact a4 i hi
        · rw [selB_len] at hi
          simp only [selB] at hj ⊢
          have := a4 i hi
          rw [map_getD _ _ _ hi, (selC_noAgg _ _).cells, map_getD _ _ _ (by omega)]
          exact selC_sound h2 hrf hJ hJ2 _ _ (a5 i j hi hj)
    · intro b x hx
      have key : ∀ b0 b1, V'.m[b0]? = some x → g b0 = some b1 → V2.B ≤ x.1 ∧ ¬ V2.I x.1 ∧ ¬ V2.J x.1 := by
        intro b0 b1 hb0 hg0
        have := h2.fresh b0 x hb0
        refine ⟨this.1, this.2.1, ?_⟩
        rintro (h | ⟨b', e, hb', he, hxe⟩)
        · exact this.2.2 h
        · have := h2.inj b' b0 e x he hb0 hxe
          subst this
          rw [hg0] at hb'; cases hb'
      simp only [V2, List.getElem?_append] at hx
      split at hx
      · rw [List.getElem?_take] at hx
        split at hx
        · rename_i hb; exact key b b hx (hglt b hb)
        · simp at hx
      · obtain ⟨b', hb', _, hx'⟩ := hm2 _ _ hx
        exact key b' _ hx' (hgsel _ _ hb')
    · intro b b' x x' hx hx' hxx
      simp only [V2, List.getElem?_append] at hx hx'
      split at hx
      · rw [List.getElem?_take] at hx
        split at hx
        · rename_i hb
          split at hx'
          · rw [List.getElem?_take] at hx'
            split at hx'
            · exact h2.inj b b' x x' hx hx' hxx
            · simp at hx'
          · obtain ⟨c, _, hcn, hc⟩ := hm2 _ _ hx'
            have := h2.inj b c x x' hx hc hxx; omega
        · simp at hx
      · obtain ⟨c, hc, hcn, hxc⟩ := hm2 _ _ hx
        split at hx'
        · rw [List.getElem?_take] at hx'
          split at hx'
          · have := h2.inj c b' x x' hxc hx' hxx; omega
          · simp at hx'
        · obtain ⟨c', hc', _, hxc'⟩ := hm2 _ _ hx'
          have := h2.inj c c' x x' hxc hxc' hxx
          subst this
          have := (List.getElem?_inj (List.getElem?_eq_some_iff.1 hc).1 n1).1 (hc.trans hc'.symm)
          rw [hmn] at *
          omega
    · rintro x (h | ⟨b, e, _, he, rfl⟩)
      · exact h2.Jlt x h
      · exact ⟨(h2.fresh b e he).1, h2.blt he⟩
    · intro b k x hk hx hz
      by_cases hbn : b < n
      · have hk' : Lf[b]? = some k := by
          rw [← hk]; show _ = (Lf.take n ++ _)[b]?
          rw [List.getElem?_append_left (by omega), List.getElem?_take, if_pos hbn]
        have hx' : V'.m[b]? = some x := by
          rw [← hx]; show _ = (V'.m.take n ++ m2)[b]?
          rw [List.getElem?_append_left (by omega), List.getElem?_take, if_pos hbn]
        exact h2.big b k x hk' hx' hz
      · have hk' : (sel.map fun b => selB g Lf (Lf.getD b ⟨0, []⟩))[b - n]? = some k := by
          rw [← hk]; show _ = (Lf.take n ++ _)[b]?
          rw [List.getElem?_append_right (by omega), hLn]
        have hx' : m2[b - n]? = some x := by
          rw [← hx]; show _ = (V'.m.take n ++ m2)[b]?
          rw [List.getElem?_append_right (by omega), hmn]
        obtain ⟨b0, hb0, hbn0, hx0⟩ := hm2 _ _ hx'
        simp only [List.getElem?_map, hb0, Option.map_some, Option.some.injEq] at hk'
        subst hk'
        have hbl := (n2 b0 (List.mem_of_getElem? hb0)).2
        have hgd : Lf.getD b0 ⟨0, []⟩ = Lf[b0] := by simp [hbl]
        rw [hgd] at hz
        exact h2.big b0 Lf[b0] x (List.getElem?_eq_getElem hbl) hx0 hz
  exact ⟨v, _, L2, V2, rfl, n4, hrel2, h3.trans hst, hext, selV_sound h2 hrf hJ hJ2 rv v g2⟩

theorem ISpec.ret {f : FuncId} {fn : Func} {c : Code} (hf : P.funcs[f]? = some fn) (hb : fn.body = some c) {args : List AV} {L : List Blk} {K : AV → List Blk → Prop}
    (h : AW P c (DoneQ P fn (RetQ L K)) ⟨args ++ List.replicate (fn.ntmps - args.length) .any, L⟩) : ISpec P f args L K := (ISpec.intro hf hb h).fin

section
variable {I J : Nat → Prop} {rf : Nat → Option E} {w : World}
end
end Go.Ev
namespace Go.Ev
open Go Go.RowKit
variable [Gl] [Lit]

variable {P : Program}


def ownStep (n : Nat) (f : AV → AV) : AV → AV
  | .sl b ver off len cap => .sl (n + b) ver off len cap
  | .ds tag l => if 0 < tag then .ds tag (l.map (expE f)) else .any
  | .nilS => .nilS
  | .int k m => .int k m
  | .bool b => .bool b
  | .str s => .str s
  | .nilP => .nilP
  | .ptr b ver i off => .ptr (n + b) ver i off
  | _ => .any
def ownC (n : Nat) : AV → AV := ownStep n (ownStep n (ownStep n fun _ => .any))
def ownV (n : Nat) : AV → AV
  | .tup l => .tup (l.map (expE (ownC n)))
  | x => expE (ownC n) x
def ownB (n : Nat) (k : Blk) : Blk := ⟨k.esz, k.l.map (expE (ownC n))⟩
theorem ownStep_noAgg (n : Nat) (f : AV → AV) : NoAgg (ownStep n f) := by
  intro x l
  unfold ownStep
  split <;> (try split) <;> simp
theorem ownC_noAgg (n : Nat) : NoAgg (ownC n) := ownStep_noAgg _ _
theorem ownB_len (n : Nat) (k : Blk) : (ownB n k).l.length = k.l.length := by simp [ownB]

section
variable {I J I' J' : Nat → Prop} {rf rf' : Nat → Option E} {w : World} {n : Nat} (hrf : ∀ b e, rf b = some e → rf' (n + b) = some e) (hJ : ∀ x, J x → J' x)
include hrf hJ
theorem ownStep_sound {f : AV → AV} (hf : ∀ x v, R I J rf w x v → R I' J' rf' w (f x) v) (hn : NoAgg f) (x : AV) (v : Value) (h : R I J rf w x v) : R I' J' rf' w (ownStep n f x) v := by
  unfold ownStep
  split
  · cases h with
    | sl _ _ _ _ _ _ e a0 a1 a2 a3 => exact .sl _ _ _ _ _ _ e a0 (hrf _ _ a1) a2 a3
  · rename_i tag l
    split
    · rename_i ht
      cases h with
      | ds0 _ a cap a8 => exact .ds0 _ _ _ a8
      | ds _ _ b o cap esz vs a1 a2 a3 a4 a5 a6 a7 a8 =>
        have := R.ds (I := I') (J := J') (rf := rf') (w := w) tag (l.map (expE f)) b o cap esz vs
          (fun h => hJ _ (a1 h)) (.inr (hJ _ (a1 ht))) (by simpa using a3)
          (fun i hi => by
            rw [List.length_map] at hi
            rw [map_getD _ _ _ hi, hn.cells, List.length_map]; exact a4 i hi)
          (fun p hp => by
            rw [List.length_map] at hp
            exact a5 p hp)
          (fun i j hi hj => by
            rw [List.length_map] at hi
            have hij := a4 i hi
            rw [map_getD _ _ _ hi, hn.cells, map_getD _ _ _ (by omega)]
            exact hf _ _ (a6 i j hi hj)) (by simpa using a7) (by simpa using a8)
        rw [List.length_map] at this
        exact this
    · exact .any _
  · cases h with | nilS a => exact .nilS a
  · cases h with | int => exact .int _ _
  · cases h with | bool => exact .bool _
  · cases h with | str => exact .str _
  · cases h with | nilP => exact .nilP
  · cases h with
    | ptr _ _ _ _ _ e a0 a1 a2 a3 => exact .ptr _ _ _ _ _ e a0 (hrf _ _ a1) a2 a3
  · exact .any _
theorem ownC_sound (x : AV) (v : Value) (h : R I J rf w x v) : R I' J' rf' w (ownC n x) v := by
  unfold ownC
  refine ownStep_sound hrf hJ (fun x v h => ?_) (ownStep_noAgg _ _) x v h
  refine ownStep_sound hrf hJ (fun x v h => ?_) (ownStep_noAgg _ _) x v h
  exact ownStep_sound hrf hJ (fun x v _ => .any _) (fun x l => by simp) x v h
theorem ownE_sound (x : AV) (v : Value) (h : R I J rf w x v) : R I' J' rf' w (expE (ownC n) x) v := by
  have hc := ownC_sound hrf hJ (I := I) (I' := I') (w := w)
  unfold expE
  split
  · cases h with
    | agg l arr h1 h2 =>
      refine .agg _ _ (by simp [h1]) fun i hi => ?_
      rw [List.length_map] at hi
      rw [map_getD _ _ _ hi]
      exact hc _ _ (h2 i hi)
  · exact hc _ _ h
theorem ownV_sound (x : AV) (v : Value) (h : R I J rf w x v) : R I' J' rf' w (ownV n x) v := by
  have hc := ownE_sound hrf hJ (I := I) (I' := I') (w := w)
  unfold ownV
  split
  · cases h with
    | tup l arr h1 h2 =>
      refine .tup _ _ (by simp [h1]) fun i hi => ?_
      rw [List.length_map] at hi
      rw [map_getD _ _ _ hi]
      exact hc _ _ (h2 i hi)
  · exact hc _ _ h
end

theorem ISpec.frame {f : FuncId} {args : List AV} {K : AV → List Blk → Prop} (h : ISpec P f args [] K) {L : List Blk} {xs : List AV} (hxs : xs.map (exp 0 L) = args) :
    ISpec P f xs L (fun v L' => ∃ v0 N0, K v0 N0 ∧ v = ownV L.length v0 ∧ L' = L ++ N0.map (ownB L.length)) := by
  intro V w vs hr hl hx
  let I' : Nat → Prop := fun x => V.I x ∨ V.J x ∨ ∃ (b : Nat) (e : Nat × Nat × Nat), V.m[b]? = some e ∧ e.1 = x
  have hlt : ∀ x, I' x → x < w.heap.size := fun x hx => by
    rcases hx with h | h | ⟨b, e, h, rfl⟩
    · exact hr.Ilt x h
    · exact (hr.Jlt x h).2
    · exact hr.blt h
  let V0 : Vw := ⟨w.heap.size, I', fun _ => False, []⟩
  have hrel : Rel V0 [] w := ⟨rfl, by simp, by simp [V0], by simp [V0], hlt, fun _ h => h.elim, Nat.le_refl _, by simp, hr.glob.mono (fun x h => .inl h) fun _ _ => rfl⟩
  have hrf0 : rfOf V0.m [] = fun _ => none := by funext b; simp [rfOf]
  refine (h V0 w vs hrel (by rw [← hxs]; simpa using hl) (fun i hi => by
    rw [← hxs, List.length_map] at hi
    rw [hrf0, ← hxs, map_getD _ _ _ hi]
    exact exp_sound hr 0 (by omega) (fun x h => .inl (.inl h)) (fun x h => .inl (.inr (.inl h))) (fun b e h => .inl (.inr (.inr ⟨b, e, h, rfl⟩))) (fun _ _ h => h) (by simp) (by simp) _ _ (hx i hi))).mono ?_
  rintro e w' ⟨u, r0, N0, V', rfl, hK, h2, h3, -, g2⟩
  have hB : V'.B = w.heap.size := h3.B
  have hkeep : ∀ x, x < w.heap.size → w'.heap[x]? = w.heap[x]? := fun x hx => (h3.keep x hx (by simp [V0])).1
  have hsz := h3.size
  let V2 : Vw := ⟨V.B, V.I, fun x => V.J x ∨ V'.J x, V.m ++ V'.m⟩
  have hJ : ∀ x, V'.J x → V2.J x := fun x h => .inr h
  have hst : Step V w V2 w' := by
    refine ⟨rfl, rfl, fun _ h => .inl h, fun x hx hm => ⟨hkeep x hx, fun b e he => ?_, fun h => h.elim id fun h => ?_⟩, hsz, h3.os, h3.tape, h3.output⟩
    · simp only [V2, List.getElem?_append] at he
      split at he
      · exact hm b e he
      · have := (h2.fresh _ _ he).1; omega
    · have := (h2.Jlt x h).1; omega
  have hext : rfExt (rfOf V.m L) (rfOf V2.m (L ++ N0.map (ownB L.length))) := rfExt_append hr.len
  have hrf : ∀ b e, rfOf V'.m N0 b = some e → rfOf V2.m (L ++ N0.map (ownB L.length)) (L.length + b) = some e := by
    intro b e he
    unfold rfOf at he
    split at he
    · rename_i k x hk hx
      have e1 : V2.m[L.length + b]? = some x := by
        show (V.m ++ V'.m)[L.length + b]? = _
        rw [List.getElem?_append_right (by rw [hr.len]; omega), hr.len, Nat.add_sub_cancel_left]; exact hx
      have e2 : (L ++ N0.map (ownB L.length))[L.length + b]? = some (ownB L.length k) := by
        rw [List.getElem?_append_right (by omega), Nat.add_sub_cancel_left, List.getElem?_map, hk]; rfl
      unfold rfOf
      rw [e1, e2]
      simp only [ownB_len]
      exact he
    · simp at he
  refine ⟨u, _, _, V2, rfl, ⟨r0, N0, hK, rfl, rfl⟩, ⟨?_, ?_, ?_, ?_, ?_, ?_, ?_, ?_, hr.globS hst⟩, hst, hext, ownV_sound hrf hJ _ _ g2⟩
  · simp [V2, hr.len, h2.len]
  · intro b k x hk hx
    simp only [V2, List.getElem?_append] at hk hx
    by_cases hbl : b < L.length
    · rw [if_pos hbl] at hk
      rw [if_pos (by rw [hr.len]; exact hbl)] at hx
      obtain ⟨c, ty, a1, a2, a3, a4, a5⟩ := hr.blk b k x hk hx
      exact ⟨c, ty, by rw [hkeep _ (hr.blt hx)]; exact a1, a2, a3, a4, fun i j hi hj => (a5 i j hi hj).step hr hst hext⟩
    · rw [if_neg hbl] at hk
      rw [if_neg (by rw [hr.len]; exact hbl), hr.len] at hx
      rw [List.getElem?_map] at hk
      obtain ⟨k0, hk0, rfl⟩ := Option.map_eq_some_iff.1 hk
      obtain ⟨c, ty, a1, a2, a3, a4, a5⟩ := h2.blk _ k0 x hk0 hx
      refine ⟨c, ty, a1, a2, by rw [ownB_len]; exact a3, fun i hi => ?_, fun i j hi hj => ?_⟩
      · rw [ownB_len] at hi
        simp only [ownB]
        rw [map_getD _ _ _ hi, (ownC_noAgg _).cells, List.length_map]
        exact a4 i hi
      · rw [ownB_len] at hi
        simp only [ownB] at hj ⊢
        have := a4 i hi
        rw [map_getD _ _ _ hi, (ownC_noAgg _).cells, map_getD _ _ _ (by omega)]
        exact ownC_sound hrf hJ _ _ (a5 i j hi hj)
  · intro b x hx
    simp only [V2, List.getElem?_append] at hx
    split at hx
    · have h5 := hr.fresh b x hx
      refine ⟨h5.1, h5.2.1, fun hj => hj.elim h5.2.2 fun hj => ?_⟩
      have := (h2.Jlt _ hj).1; have := hr.blt hx; omega
    · have h5 := h2.fresh _ x hx
      refine ⟨by have := hr.Bsz; show V.B ≤ _; omega, fun hi => ?_, fun hj => hj.elim (fun hj => ?_) h5.2.2⟩
      · have := hr.Ilt _ hi; omega
      · have := (hr.Jlt _ hj).2; omega
  · intro b b' x x' hx hx' hxx
    simp only [V2, List.getElem?_append] at hx hx'
    split at hx
    · split at hx'
      · exact hr.inj b b' x x' hx hx' hxx
      · have := (h2.fresh _ _ hx').1; have := hr.blt hx; omega
    · split at hx'
      · have := (h2.fresh _ _ hx).1; have := hr.blt hx'; omega
      · have := h2.inj _ _ x x' hx hx' hxx
        omega
  · exact fun x h => Nat.lt_of_lt_of_le (hr.Ilt x h) hsz
  · intro x h
    rcases h with h | h
    · exact ⟨(hr.Jlt x h).1, Nat.lt_of_lt_of_le (hr.Jlt x h).2 hsz⟩
    · have h5 := h2.Jlt x h; have h6 := hr.Bsz; exact ⟨by show V.B ≤ x; omega, h5.2⟩
  · exact Nat.le_trans hr.Bsz hsz
  · intro b k x hk hx hz
    simp only [V2, List.getElem?_append] at hk hx
    by_cases hbl : b < L.length
    · rw [if_pos hbl] at hk
      rw [if_pos (by rw [hr.len]; exact hbl)] at hx
      exact hr.big b k x hk hx hz
    · rw [if_neg hbl] at hk
      rw [if_neg (by rw [hr.len]; exact hbl), hr.len] at hx
      rw [List.getElem?_map] at hk
      obtain ⟨k0, hk0, rfl⟩ := Option.map_eq_some_iff.1 hk
      exact h2.big _ k0 x hk0 hx hz

end Go.Ev
namespace Go.Ev
open Go Go.RowKit
variable [Gl] [Lit]

variable {P : Program} {Sg : FuncId → Option (List AV → Option AV)} {ops : Array Oper}


theorem Rel.push {V : Vw} {L : List Blk} {w w' : World} (hr : Rel V L w) (o : Obj) (hh : w'.heap = w.heap.push o)
    (ho : w'.os = w.os) (ht : w'.tape = w.tape) (hu : w'.output = w.output) : Rel V L w' ∧ Step V w V w' := by
  have hst : Step V w V w' := by
    refine ⟨rfl, rfl, fun _ h => h, fun x hx hm => ⟨?_, hm, fun h => h⟩, by simp [hh], ho, ht, hu⟩
    rw [hh, Array.getElem?_push, if_neg (by omega)]
  refine ⟨⟨hr.len, fun b k' x h1 h2 => ?_, hr.fresh, hr.inj, fun x h => ?_, fun x h => ?_, ?_, hr.big, hr.globS hst⟩, hst⟩
  · obtain ⟨c', ty', a1, a2, a3, a4, a5⟩ := hr.blk b k' x h1 h2
    have := hr.blt h2
    refine ⟨c', ty', ?_, a2, a3, a4, fun i j hi hj => (a5 i j hi hj).step hr hst (rfExt.refl _)⟩
    rw [hh, Array.getElem?_push, if_neg (by omega)]; exact a1
  · have := hr.Ilt x h; rw [hh]; simp; omega
  · have := hr.Jlt x h; rw [hh]; simp; omega
  · have := hr.Bsz; rw [hh]; simp; omega

theorem app_one {α : Type} {l : List α} {e y : α} {b : Nat} (h : (l ++ [e])[b]? = some y) : (b < l.length ∧ l[b]? = some y) ∨ (b = l.length ∧ y = e) := by
  by_cases hb : b < l.length
  · rw [List.getElem?_append_left hb] at h; exact .inl ⟨hb, h⟩
  · have hlt := (List.getElem?_eq_some_iff.1 h).1
    simp at hlt
    have : b = l.length := by omega
    subst this
    simp at h
    exact .inr ⟨rfl, h.symm⟩

structure MkD where
  cells : Array Value
  ty : TypeId
  tv : Nat → Value
  av : Nat → AV
  bk : Blk

theorem Rel.adopt {V : Vw} {L : List Blk} {w : World} (hr : Rel V L w) {x : Nat} (D : MkD) (hh : w.heap[x]? = some (.cells D.cells D.ty (0, 0)))
    (hB : V.B ≤ x) (hI : ¬ V.I x) (hJ : ¬ V.J x) (hm : ∀ (b : Nat) (e : Nat × Nat × Nat), V.m[b]? = some e → e.1 ≠ x)
    (h1' : D.bk.l.length * D.bk.esz ≤ D.cells.size) (h2' : ∀ i, i < D.bk.l.length → (D.bk.l.getD i .any).cells.length = D.bk.esz)
    (h3' : ∀ (I J : Nat → Prop) (rf : Nat → Option E) (w : World) (i j : Nat), i < D.bk.l.length → j < D.bk.esz → R I J rf w ((D.bk.l.getD i .any).cells.getD j .any) (D.cells.getD (i * D.bk.esz + j) undef))
    (h4' : D.bk.esz = 1 → D.cells.size ≤ 9223372036854775807) :
    Rel { V with m := V.m ++ [(x, 0, D.cells.size)] } (L ++ [D.bk]) w := by
  have hx := rfExt_append (m2 := [(x, 0, D.cells.size)]) (L2 := [D.bk]) hr.len
  refine ⟨by simp [hr.len], fun b k' y h1 h2 => ?_, fun b y h => ?_, fun b b' y y' h1 h2 h3 => ?_, hr.Ilt, hr.Jlt, hr.Bsz, fun b k' y h1 h2 h3 => ?_, hr.glob⟩
  · rcases app_one h1 with ⟨hb, h1⟩ | ⟨hb, rfl⟩
    · rcases app_one h2 with ⟨_, h2⟩ | ⟨hb2, _⟩
      · obtain ⟨c', ty', a1, a2, a3, a4, a5⟩ := hr.blk b k' y h1 h2
        exact ⟨c', ty', a1, a2, a3, a4, fun i j hi hj => (a5 i j hi hj).mono (fun _ h => h) (fun _ h => h) (fun _ _ => rfl) hx⟩
      · rw [hr.len] at hb2; omega
    · rcases app_one h2 with ⟨hb2, _⟩ | ⟨_, rfl⟩
      · rw [hr.len] at hb2; omega
      · refine ⟨D.cells, D.ty, hh, rfl, by simpa using h1', h2', fun i j hi hj => ?_⟩
        simp only [Nat.zero_add]
        exact h3' _ _ _ _ i j hi hj
  · rcases app_one h with ⟨_, h⟩ | ⟨_, rfl⟩
    · exact hr.fresh b y h
    · exact ⟨hB, hI, hJ⟩
  · rcases app_one h1 with ⟨_, h1⟩ | ⟨e1, rfl⟩
    · rcases app_one h2 with ⟨_, h2⟩ | ⟨_, rfl⟩
      · exact hr.inj b b' y y' h1 h2 h3
      · exact absurd h3 (hm b y h1)
    · rcases app_one h2 with ⟨_, h2⟩ | ⟨e2, _⟩
      · exact absurd h3.symm (hm b' y' h2)
      · omega
  · rcases app_one h1 with ⟨hb, h1⟩ | ⟨hb, rfl⟩
    · rcases app_one h2 with ⟨_, h2⟩ | ⟨hb2, _⟩
      · exact hr.big b k' y h1 h2 h3
      · rw [hr.len] at hb2; omega
    · rcases app_one h2 with ⟨hb2, _⟩ | ⟨_, rfl⟩
      · rw [hr.len] at hb2; omega
      · exact h4' h3

structure MkOK (P : Program) (o : Oper) (d : Tmp) (D : MkD) : Prop where
  g : o.guard = none
  d : o.dst = some d
  run : ∀ (ev : Operand → Value) (w : World), (execOp ev o).run P w = .ok (.value (D.tv w.heap.size)) (w.alloc (.cells D.cells D.ty))
  len : D.bk.l.length * D.bk.esz ≤ D.cells.size
  each : ∀ i, i < D.bk.l.length → (D.bk.l.getD i .any).cells.length = D.bk.esz
  cells : ∀ (I J : Nat → Prop) (rf : Nat → Option E) (w : World) (i j : Nat), i < D.bk.l.length → j < D.bk.esz → R I J rf w ((D.bk.l.getD i .any).cells.getD j .any) (D.cells.getD (i * D.bk.esz + j) undef)
  big : D.bk.esz = 1 → D.cells.size ≤ 9223372036854775807
  val : ∀ {V : Vw} {L : List Blk} {w : World} {x : Nat}, Rel { V with m := V.m ++ [(x, 0, D.cells.size)] } (L ++ [D.bk]) w → V.m.length = L.length →
    R V.I V.J (rfOf (V.m ++ [(x, 0, D.cells.size)]) (L ++ [D.bk])) w (D.av L.length) (D.tv x)
  ev : ∀ (Sg : FuncId → Option (List AV → Option AV)) (n0 : Nat) (ρ : Operand → AV) (L : List Blk), evD P Sg n0 ρ L o.op = some (D.av L.length, L ++ [D.bk])

theorem mk_alloc {o : Oper} {t : TypeId} {d : Tmp} {z : AV} (hop : o.op = .alloc t) (hg : o.guard = none) (hd : o.dst = some d) (hz : tzero P t = some z) : ∃ D, MkOK P o d D := by
  obtain ⟨i, zv, h1, h2, rfl⟩ := tzero_some hz
  have hzc := fun (I J : Nat → Prop) (rf : Nat → Option E) (w : World) => ofV_cells (I := I) (J := J) (rf := rf) (w := w) zv
  refine ⟨⟨zv.cells, t, fun x => .pointer (some ⟨x, 0, none⟩), fun n => .ptr n 1 0 0, ⟨(ofV zv).cells.length, [ofV zv]⟩⟩, hg, hd, fun ev w => ?_, ?_, fun i hi => ?_, fun I J rf w i j hi hj => ?_, fun h => ?_, fun {V L w x} hr hl => ?_, fun Sg n0 ρ L => ?_⟩
  · simp [execOp, hop, Instr.alloc, zeroValue, typeInfo, h1, h2, newVar, newRow]
  · have := (hzc (fun _ => False) (fun _ => False) (fun _ => none) default).1
    simp [this]
  · have : i = 0 := by simpa using hi
    subst this; simp
  · have : i = 0 := by simpa using hi
    subst this
    simpa using (hzc I J rf w).2 j (by simpa using hj)
  · have := (hzc (fun _ => False) (fun _ => False) (fun _ => none) default).1
    simp only at h ⊢
    omega
  · have hb : (L ++ [(⟨(ofV zv).cells.length, [ofV zv]⟩ : Blk)])[L.length]? = some ⟨(ofV zv).cells.length, [ofV zv]⟩ := by simp
    have hm : (V.m ++ [(x, 0, zv.cells.size)])[L.length]? = some (x, 0, zv.cells.size) := by rw [← hl]; simp
    have := hr.mkptr (i := 0) (off := 0) hb rfl hm (by simp)
    simpa using this
  · unfold evD
    rw [hop]
    simp [evP, evE, hz]

theorem mk_slice {o : Oper} {t e : TypeId} {parts : Array (Nat × Operand)} {d : Tmp} {sz : Nat} {z : AV} (hop : o.op = .buildSlice t 0 parts) (hp : parts.size = 0) (hg : o.guard = none) (hd : o.dst = some d)
    (ht : P.underlying t = some (.slice e)) (hs : tsize P e = some sz) (hz : tzero P e = some z) (hzs : z.cells.length = sz) (h0 : 0 < sz) : ∃ D, MkOK P o d D := by
  have hpe : parts = #[] := Array.eq_empty_of_size_eq_zero hp
  subst hpe
  refine ⟨⟨#[], e, fun x => .slice (some ⟨x, 0, none⟩) 0 0, fun n => .sl n 0 0 0 0, ⟨sz, []⟩⟩, hg, hd, fun ev w => ?_, by simp, fun i hi => by simp at hi, fun I J rf w i j hi => by simp at hi, fun h => by simp, fun {V L w x} hr hl => ?_, fun Sg n0 ρ L => ?_⟩
  · simp only [execOp, hop, Instr.buildSlice, Sem.run_bind, run_underlying ht, run_sizeOf hs, Result.andThen_ok]
    simp [Instr.fill, newRow]
    rw [show Array.range 0 = #[] from rfl]
    simp
  · obtain ⟨y, hy1, hy2⟩ := hr.entry (b := L.length) (k := ⟨sz, []⟩) (by simp)
    have hm : y = (x, 0, (#[] : Array Value).size) := by
      have : (V.m ++ [(x, 0, (#[] : Array Value).size)])[L.length]? = some (x, 0, (#[] : Array Value).size) := by rw [← hl]; simp
      rw [this] at hy1; exact (Option.some.inj hy1).symm
    subst hm
    exact .sl _ _ _ _ _ _ _ rfl hy2 (by simp) fun _ => ⟨_, _, rfl, by omega, by omega, fun _ => by simp, by simp, by omega⟩
  · unfold evD
    rw [hop]
    simp [evP, evE, ht, hs, hz, hzs, h0]

structure Pend (V : Vw) (w : World) (a : Act) (D : MkD) (d x : Nat) : Prop where
  cell : w.heap[x]? = some (.cells D.cells D.ty (0, 0))
  J : ¬ V.J x
  m : ∀ (b : Nat) (e : Nat × Nat × Nat), V.m[b]? = some e → e.1 ≠ x
  tmp : d < a.tmps.size → a.tmps.getD d undef = D.tv x

theorem Pend.step {V V' : Vw} {w w' : World} {a : Act} {D : MkD} {d x : Nat} (h : Pend V w a D d x) (hs : Step V w V' w') {dst : Option Tmp} {u : Value} (hd : dst ≠ some d) : Pend V' w' (a.put dst u) D d x := by
  have hlt : x < w.heap.size := (Array.getElem?_eq_some_iff.1 h.cell).1
  obtain ⟨k1, k2, k3⟩ := hs.keep x hlt h.m
  refine ⟨k1.trans h.cell, fun hj => h.J (k3 hj), k2, fun hsz => ?_⟩
  cases dst with
  | none => exact h.tmp hsz
  | some k =>
    have hk : k ≠ d := fun e => hd (by rw [e])
    simp only [Act.put, Array.size_setIfInBounds] at hsz
    have := h.tmp hsz
    simp only [Act.put, Array.getD_eq_getD_getElem?, Array.getElem?_setIfInBounds_ne hk] at this ⊢
    exact this

theorem RelS.adopt {V : Vw} {t : List AV} {L : List Blk} {a : Act} {w : World} {o : Oper} {D : MkD} {d x : Nat} (h : RelS V ⟨t.set d .any, L⟩ a w) (hk : MkOK P o d D) (hp : Pend V w a D d x) (hB : V.B ≤ x) (hI : ¬ V.I x) :
    RelS { V with m := V.m ++ [(x, 0, D.cells.size)] } ⟨t.set d (D.av L.length), L ++ [D.bk]⟩ a w := by
  have hr := h.rel.adopt D hp.cell hB hI hp.J hp.m hk.len hk.each hk.cells hk.big
  have hx := rfExt_append (m2 := [(x, 0, D.cells.size)]) (L2 := [D.bk]) h.rel.len
  have hsz : a.tmps.size = t.length := by have := h.size; simpa using this
  refine ⟨hr, h.defers, by simp [hsz], fun i hi => ?_⟩
  simp only [List.length_set] at hi
  by_cases hd : d = i
  · subst hd
    have e1 : (t.set d (D.av L.length)).getD d .any = D.av L.length := by simp [List.getD_eq_getElem?_getD, hi]
    rw [e1, hp.tmp (by omega)]
    exact hk.val hr h.rel.len
  · have := h.tmps i (by simpa using hi)
    simp only [List.getD_eq_getElem?_getD, List.getElem?_set_ne hd] at this ⊢
    exact this.mono (fun _ h => h) (fun _ h => h) (fun _ _ => rfl) hx

theorem alloc_wp {V : Vw} {s : St} {a : Act} {w : World} (h : RelS V s a w) {o : Oper} {d : Nat} {D : MkD} (hk : MkOK P o d D)
    {K : Act → World → Prop} {Q : Exit → Act → World → Prop}
    (hK : ∀ u w', RelS V ⟨s.t.set d .any, s.L⟩ (a.put o.dst u) w' → SX V s.L w V s.L w' → Pend V w' (a.put o.dst u) D d w.heap.size → K (a.put o.dst u) w') : o.wp P a w K Q := by
  have hd := hk.d
  have hrun := hk.run a.eval w
  obtain ⟨p1, p2⟩ := h.rel.push (.cells D.cells D.ty (0, 0)) (w' := w.alloc (.cells D.cells D.ty)) rfl rfl rfl rfl
  unfold Oper.wp
  rw [hrun]
  refine hK _ _ ?_ ⟨p2, rfExt.refl _⟩ ⟨heap_alloc_new w _, fun hj => ?_, fun b e he hx => ?_, fun hsz => ?_⟩
  · have := h.put p1 p2 (rfExt.refl _) (.any (D.tv w.heap.size)) (some d)
    rw [hd]; exact this
  · have := (h.rel.Jlt _ hj).2; omega
  · have := h.rel.blt he; omega
  · rw [hd]
    simp only [hd, Act.put, Array.size_setIfInBounds] at hsz
    simp [Act.put, Array.getD_eq_getD_getElem?, hsz]

structure PairPP (ops : Array Oper) (cs late : List Nat) (a0 j i : Nat) : Prop where
  dep : ∀ oj, ops[j]? = some oj → ∀ e ∈ oj.after, Region.binds .any e = true → e.on ≠ i
  fr : j ∈ late → FrP ops j i
  sw : Path ops i j ∨ (j ∉ cs ∧ ((i ∈ cs ∧ j ∈ late ∧ lateC ops i j) ∨ (i ∉ cs ∧ indepOps' ops j i = true))) ∨ (i = a0 ∧ j ∈ cs ∧ FrP ops j a0)
def frB (ops : Array Oper) (j i : Nat) : Bool :=
  match ops[j]?, ops[i]? with
  | some oj, some oi => match oi.dst with
    | some d => !(oj.looksAt ops).contains d && oj.dst != some d
    | none => true
  | _, _ => false
theorem frB_of {j i : Nat} (h : frB ops j i = true) : FrP ops j i := fun oj oi hj hi d hd => by
  unfold frB at h
  rw [hj, hi] at h
  simp only [hd] at h
  simpa using h
def pairPB (ops : Array Oper) (cs late ms : List Nat) (a0 j i : Nat) : Bool :=
  pairB ops cs late ms j i || (i == a0 && (cs.contains j && (frB ops j i && (match ops[j]? with
    | some oj => !(oj.after.toList.any fun e => Region.binds .any e && e.on == i)
    | none => false))))
theorem pairPP_of {cs late : List Nat} {a0 j i : Nat} (h : pairPB ops cs late (masks [] ops.toList) a0 j i = true) : PairPP ops cs late a0 j i := by
  unfold pairPB at h
  rw [Bool.or_eq_true] at h
  rcases h with h | h
  · have h := pairP_of h
    exact ⟨h.dep, h.fr, h.sw.imp id .inl⟩
  · simp only [Bool.and_eq_true, beq_iff_eq] at h
    obtain ⟨rfl, h3, h1, h2⟩ := h
    refine ⟨fun oj hj e he hb hei => ?_, fun _ => frB_of h1, .inr (.inr ⟨rfl, List.contains_iff_mem.1 h3, frB_of h1⟩)⟩
    rw [hj] at h2
    have : (oj.after.toList.any fun e => Region.binds .any e && e.on == i) = true := List.any_eq_true.2 ⟨e, by simpa using he, by simp [hb, hei]⟩
    simp only [this] at h2
    simp at h2
def pwPB (ops : Array Oper) (cs late ms : List Nat) (a0 : Nat) : List Nat → Bool
  | [] => true
  | j :: r => r.all (pairPB ops cs late ms a0 j) && pwPB ops cs late ms a0 r
theorem pwPB_pw {cs late ms : List Nat} {a0 : Nat} : ∀ {l : List Nat}, pwPB ops cs late ms a0 l = true → l.Pairwise fun j i => pairPB ops cs late ms a0 j i = true
  | [], _ => .nil
  | j :: r, h => by
    simp only [pwPB, Bool.and_eq_true, List.all_eq_true] at h
    exact .cons h.1 (pwPB_pw h.2)
def isNew (o : Oper) : Bool := (match o.op with | .alloc _ => true | .buildSlice _ 0 parts => parts.size == 0 | _ => false) && (o.guard.isNone && o.dst.isSome)
def anyOKP (ops : Array Oper) (cs late ord : List Nat) (a0 : Nat) : Bool :=
  decide ord.Nodup && (decide (ord.length = ops.size) && (ord.all (fun i => decide (i < ops.size)) && (((List.range ops.size).all fun i => (ops.getD i default).after.all fun e => !Region.binds .any e || (decide (e.on < ops.size) && e.on != i)) &&
    (late.all (fun m => !cs.contains m && decide (m < ops.size)) && ((List.range ops.size).all (fun i => ord.contains i) && (pwPB ops cs late (masks [] ops.toList) a0 ord && (isNew (ops.getD a0 default) && (decide (a0 < ops.size) && (!cs.contains a0 && !late.contains a0)))))))))

theorem takeWhile_p {p : Nat → Bool} : ∀ {l : List Nat} {j : Nat}, j ∈ l.takeWhile p → p j = true
  | [], j, h => by simp at h
  | k :: l, j, h => by
    rw [List.takeWhile_cons] at h
    split at h
    · rename_i hk
      rcases List.mem_cons.1 h with rfl | h
      · exact hk
      · exact takeWhile_p h
    · simp at h
theorem takeWhile_trans {i a j : Nat} : ∀ {l : List Nat}, j ∈ l.takeWhile (· != a) → a ∈ l.takeWhile (· != i) → j ∈ l.takeWhile (· != i)
  | [], h, _ => by simp at h
  | k :: l, h, h2 => by
    rw [List.takeWhile_cons] at h h2 ⊢
    split at h
    · rename_i hka
      split at h2
      · rename_i hki
        rw [if_pos hki]
        have hka' : k ≠ a := by simpa using hka
        rcases List.mem_cons.1 h with rfl | h
        · simp
        · exact List.mem_cons_of_mem _ (takeWhile_trans h ((List.mem_cons.1 h2).resolve_left fun e => hka' e.symm))
      · simp at h2
    · simp at h
theorem pw_after {R : Nat → Nat → Prop} {i a : Nat} : ∀ {l : List Nat}, l.Pairwise R → i ∈ l → a ∈ l → a ≠ i → a ∉ l.takeWhile (· != i) → R i a
  | [], _, hi, _, _, _ => by simp at hi
  | k :: l, hp, hi, ha, hai, hn => by
    obtain ⟨h1, h2⟩ := List.pairwise_cons.1 hp
    by_cases hk : k = i
    · subst hk
      exact h1 a ((List.mem_cons.1 ha).resolve_left hai)
    · have hki : (k != i) = true := by simpa using hk
      rw [List.takeWhile_cons, if_pos hki] at hn
      have hak : a ≠ k := fun e => hn (by simp [e])
      exact pw_after h2 ((List.mem_cons.1 hi).resolve_left fun e => hk e.symm) ((List.mem_cons.1 ha).resolve_left hak) hai fun h => hn (by simp [h])

theorem filter_upd {ord : List Nat} {p : Bool} {listed : Array Bool} {a0 i n : Nat} (hsz : listed.size = n) (hi : i < n) (hnd : ord.Nodup) (hia : i ≠ a0) :
    (ord.filter (fun k => !listed.getD k true || (p && k == a0))).erase i = ord.filter (fun k => !(listed.setIfInBounds i true).getD k true || (p && k == a0)) := by
  rw [List.Nodup.erase_eq_filter (List.Pairwise.filter _ hnd), List.filter_filter]
  apply List.filter_congr
  intro k hk
  by_cases hki : k = i
  · subst hki
    have : (k == a0) = false := by simpa using hia
    simp [Array.getD_eq_getD_getElem?, hsz, hi, this]
  · rw [getD_set_ne true (fun h => hki h.symm)]
    simp [hki]

theorem wpAny_of_runP (hP : PF P) (hS : Sound P Sg) {cs late ord : List Nat} {a0 : Nat} (hok : anyOKP ops cs late ord a0 = true)
    {n0 : Nat} {Q : Exit → Act → World → Prop} {K : St → Prop} {V0 : Vw} {L0 : List Blk} {w0 : World} (h00 : Rel V0 L0 w0)
    (hQ : ∀ sf a' w' V', K sf → RelS V' sf a' w' → SX V0 L0 w0 V' sf.L w' → Q .normal a' w') {oa : Oper} {d0 : Nat} {D : MkD} (hoa : ops[a0]? = some oa) (hmk : MkOK P oa d0 D) :
    ∀ (fuel : Nat) (listed : Array Bool) (p : Bool) (x : Nat) (rem : List Nat) (s : St) (V : Vw) (a : Act) (w : World), listed.size = ops.size →
      rem = ord.filter (fun k => !listed.getD k true || (p && k == a0)) → (ord.filter (fun k => !listed.getD k true)).length = fuel →
      (p = true → listed.getD a0 true = true ∧ Pend V w a D d0 x ∧ w0.heap.size ≤ x) →
      (∀ i o, ops[i]? = some o → listed.getD i true = true → ∀ e ∈ o.after, Region.binds .any e = true → listed.getD e.on false = true) →
      (p = true → ∀ i o, ops[i]? = some o → listed.getD i true = true → i ≠ a0 → ∀ e ∈ o.after, Region.binds .any e = true → e.on ≠ a0) →
      n0 ≤ s.L.length → RunN P Sg n0 ops cs late K rem s → RelS V ⟨if p = true then s.t.set d0 .any else s.t, s.L⟩ a w → SX V0 L0 w0 V s.L w → wpAny P .any ops Q fuel listed a w := by
  have hok' := hok
  unfold anyOKP at hok'
  simp only [Bool.and_eq_true, decide_eq_true_eq, List.all_eq_true, List.mem_range] at hok'
  obtain ⟨hndo, hlo, hlt0, hdep0, hl0, hall0, hpw0, _, ha0s, ha0cs, ha0l⟩ := hok'
  have ha0c : a0 ∉ cs := fun h => by rw [List.contains_iff_mem.2 h] at ha0cs; simp at ha0cs
  have ha0lt : a0 ∉ late := fun h => by rw [List.contains_iff_mem.2 h] at ha0l; simp at ha0l
  have hpw : ord.Pairwise (PairPP ops cs late a0) := (pwPB_pw hpw0).imp fun h => pairPP_of h
  have hall : ∀ i, i < ops.size → i ∈ ord := fun i hi => by simpa using hall0 i hi
  have hdepr : ∀ i o, ops[i]? = some o → ∀ e ∈ o.after, Region.binds .any e = true → e.on < ops.size ∧ e.on ≠ i := by
    intro i o ho e he hb
    have hi : i < ops.size := (Array.getElem?_eq_some_iff.1 ho).1
    have := hdep0 i hi
    have e0 : ops.getD i default = o := by simp [Array.getD_eq_getD_getElem?, ho]
    rw [e0] at this
    have := Array.all_eq_true_iff_forall_mem.1 this e he
    simpa [hb] using this
  have hl1 : ∀ m ∈ late, m ∉ cs ∧ m < ops.size := fun m hm => by simpa using hl0 m hm
  have hflush : ∀ (rem : List Nat) (s : St) (V : Vw) (a : Act) (w : World) (x : Nat), n0 ≤ s.L.length → a0 ∈ rem → rem.Nodup → (∀ j ∈ rem.takeWhile (· != a0), j ∉ cs ∧ indepOps' ops j a0 = true) →
      RunN P Sg n0 ops cs late K rem s → RelS V ⟨s.t.set d0 .any, s.L⟩ a w → Pend V w a D d0 x → w0.heap.size ≤ x → SX V0 L0 w0 V s.L w →
      ∃ s' V', n0 ≤ s'.L.length ∧ RunN P Sg n0 ops cs late K (rem.erase a0) s' ∧ RelS V' s' a w ∧ SX V0 L0 w0 V' s'.L w := by
    intro rem s V a w x hn hm hnd hind hrun hrel hpd hx hsx
    obtain ⟨s', d1, d2⟩ := runN_take ha0c rem s hn hm hnd hind hrun
    have hs' : s' = ⟨s.t.set d0 (D.av s.L.length), s.L ++ [D.bk]⟩ := by
      have : stepD P Sg n0 ops a0 s = some ⟨s.t.set d0 (D.av s.L.length), s.L ++ [D.bk]⟩ := by
        rw [stepD_eq hoa]
        unfold stepR wantedA
        simp only [hmk.g, if_true]
        rw [hmk.ev]
        simp [hmk.d, AV.put]
      rw [this] at d1
      simpa using d1.symm
    subst hs'
    have hB : V.B = V0.B := hsx.1.B
    have hI : ¬ V.I x := fun h => by rw [hsx.1.I] at h; have := h00.Ilt x h; omega
    have had := hrel.adopt hmk hpd (by have := h00.Bsz; omega) hI
    refine ⟨_, _, by simp; omega, d2, had, ⟨⟨hsx.1.B, hsx.1.I, hsx.1.J, fun y hy hmy => ?_, hsx.1.size, hsx.1.os, hsx.1.tape, hsx.1.output⟩, ?_⟩⟩
    · obtain ⟨k1, k2, k3⟩ := hsx.1.keep y hy hmy
      refine ⟨k1, fun b e he => ?_, k3⟩
      rcases app_one he with ⟨_, he⟩ | ⟨_, rfl⟩
      · exact k2 b e he
      · show x ≠ y; omega
    · exact hsx.2.trans (rfExt_append hrel.rel.len)
  intro fuel
  induction fuel with
  | zero =>
    intro listed p x rem s V a w hsz hrem hlen hp hdown hdownA hn hrun hrel hsx
    have hnil : ord.filter (fun k => !listed.getD k true) = [] := List.eq_nil_of_length_eq_zero hlen
    have hno : ∀ k, k < ops.size → listed.getD k true = true := fun k hk => by
      cases h : listed.getD k true with
      | true => rfl
      | false =>
        have : k ∈ ord.filter (fun k => !listed.getD k true) := by simp only [List.mem_filter]; exact ⟨hall k hk, by rw [h]; rfl⟩
        rw [hnil] at this
        simp at this
    refine ⟨?_, ?_⟩
    · cases hr : Region.ready .any ops listed with
      | nil => rfl
      | cons i l =>
        have hi : i ∈ Region.ready .any ops listed := by rw [hr]; simp
        obtain ⟨h0, o, ho, _⟩ := mem_ready.1 hi
        have := hno i (Array.getElem?_eq_some_iff.1 ho).1
        rw [h0] at this; simp at this
    · cases p with
      | false =>
        have hr0 : rem = [] := by rw [hrem, ← hnil]; congr 1; funext k; simp
        subst hr0
        exact hQ s a w V hrun (by simpa using hrel) hsx
      | true =>
        obtain ⟨p1, p2, p4⟩ := hp rfl
        have hall' : ∀ k ∈ rem, k = a0 := fun k hk => by
          rw [hrem, List.mem_filter] at hk
          have h1 := hno k (hlt0 k hk.1)
          simpa [h1] using hk.2
        have ha : a0 ∈ rem := by rw [hrem, List.mem_filter]; exact ⟨hall a0 ha0s, by simp⟩
        have hnd : rem.Nodup := by rw [hrem]; exact List.Pairwise.filter _ hndo
        obtain ⟨s', V', f1, f2, f3, f4⟩ := hflush rem s V a w x hn ha hnd (fun j hj => by
          have hjr := (List.takeWhile_prefix _).subset hj
          have hja := hall' j hjr
          have := takeWhile_p hj
          simp [hja] at this) hrun (by simpa using hrel) p2 p4 hsx
        have he : rem.erase a0 = [] := by
          rw [List.eq_nil_iff_forall_not_mem]
          intro k hk
          rw [hnd.mem_erase_iff] at hk
          exact hk.1 (hall' k hk.2)
        rw [he] at f2
        exact hQ s' a w V' f2 f3 f4
  | succ fuel ih =>
    intro listed p x rem s V a w hsz hrem hlen hp hdown hdownA hn hrun hrel hsx
    have hpu : (ord.filter (fun k => !listed.getD k true)).Pairwise (PairPP ops cs late a0) := hpw.filter _
    have hmemu : ∀ k, k ∈ ord.filter (fun k => !listed.getD k true) ↔ k ∈ ord ∧ listed.getD k true = false := fun k => by simp
    refine ⟨fun hr => ?_, fun i hi => ?_⟩
    · exfalso
      cases hr2 : ord.filter (fun k => !listed.getD k true) with
      | nil => rw [hr2] at hlen; simp at hlen
      | cons k l =>
        have hk := (hmemu k).1 (by rw [hr2]; simp)
        have hks := hlt0 k hk.1
        have hkr : k ∈ Region.ready .any ops listed := by
          refine mem_ready.2 ⟨hk.2, ops[k], Array.getElem?_eq_getElem hks, fun e he hb => ?_⟩
          have h1 := (hdepr k _ (Array.getElem?_eq_getElem hks) e he hb).1
          have hel : e.on < listed.size := by omega
          cases hlm : listed.getD e.on true with
          | true => simpa [Array.getD_eq_getD_getElem?, hel] using hlm
          | false =>
            exfalso
            have hmem : e.on ∈ ord.filter (fun k => !listed.getD k true) := (hmemu _).2 ⟨hall _ h1, hlm⟩
            rw [hr2] at hmem hpu
            rcases List.mem_cons.1 hmem with h | h
            · exact (hdepr k _ (Array.getElem?_eq_getElem hks) e he hb).2 h
            · exact ((List.pairwise_cons.1 hpu).1 _ h).dep _ (Array.getElem?_eq_getElem hks) e he hb rfl
        rw [hr] at hkr
        simp at hkr
    · obtain ⟨h0, o, ho, hallr⟩ := mem_ready.1 hi
      have hlt : i < ops.size := (Array.getElem?_eq_some_iff.1 ho).1
      have hpath : ∀ i' j, Path ops i' j → (∀ o', ops[i']? = some o' → ∀ e ∈ o'.after, Region.binds .any e = true → listed.getD e.on false = true) → listed.getD j false = true := by
        intro i' j hp
        induction hp with
        | edge h1 h2 h3 h4 => intro h; rw [← h4]; exact h _ h1 _ h2 h3
        | @more i'' j'' o'' e'' h1 h2 h3 h4 ih4 =>
          intro h
          have hl := h _ h1 _ h2 h3
          refine ih4 fun o' ho' e he hb => hdown _ _ ho' ?_ e he hb
          have : e''.on < listed.size := by
            rcases Nat.lt_or_ge e''.on listed.size with h | h
            · exact h
            · simp [Array.getD_eq_getD_getElem?, Array.getElem?_eq_none h] at hl
          simpa [Array.getD_eq_getD_getElem?, this] using hl
      have ft : ∀ j, listed.getD j false = true → listed.getD j true = true := fun j h => by
        rcases Nat.lt_or_ge j listed.size with hj | hj
        · simpa [Array.getD_eq_getD_getElem?, hj] using h
        · simp [Array.getD_eq_getD_getElem?, Array.getElem?_eq_none hj]
      have hpathA : p = true → ∀ m j, Path ops m j → listed.getD m true = true → m ≠ a0 → j ≠ a0 := by
        intro hpt m j hp
        induction hp with
        | edge h1 h2 h3 h4 => intro h hm; rw [← h4]; exact hdownA hpt _ _ h1 h hm _ h2 h3
        | more h1 h2 h3 h4 ih4 =>
          intro h hm
          exact ih4 (ft _ (hdown _ _ h1 h _ h2 h3)) (hdownA hpt _ _ h1 h hm _ h2 h3)
      have hlen2 : (ord.filter (fun k => !(listed.setIfInBounds i true).getD k true)).length = fuel := by
        have e : (ord.filter (fun k => !listed.getD k true)).erase i = ord.filter (fun k => !(listed.setIfInBounds i true).getD k true) := by
          rw [List.Nodup.erase_eq_filter (List.Pairwise.filter _ hndo), List.filter_filter]
          apply List.filter_congr
          intro k hk
          by_cases hki : k = i
          · subst hki
            simp [Array.getD_eq_getD_getElem?, hsz, hlt]
          · rw [getD_set_ne true (fun h => hki h.symm)]
            simp [hki]
        rw [← e, List.length_erase_of_mem ((hmemu i).2 ⟨hall i hlt, h0⟩)]; omega
      have hdown2 : ∀ k ok, ops[k]? = some ok → (listed.setIfInBounds i true).getD k true = true → ∀ e ∈ ok.after, Region.binds .any e = true → (listed.setIfInBounds i true).getD e.on false = true := fun k ok hok1 hk e he hb => by
        by_cases hki : k = i
        · subst hki
          rw [ho] at hok1; cases hok1
          exact getD_set_true (hallr e he hb)
        · rw [getD_set_ne true (fun h => hki h.symm)] at hk
          exact getD_set_true (hdown k ok hok1 hk e he hb)
      by_cases hia : i = a0
      · -- the variable is made: it waits
        subst hia
        have hpf : p = false := by
          cases p with
          | false => rfl
          | true => have := (hp rfl).1; rw [h0] at this; simp at this
        subst hpf
        rw [hoa] at ho; cases ho
        unfold wpOp
        simp only [hoa]
        have hw : Region.wanted oa (yielded ops a.tmps) = true := by simp [Region.wanted, hmk.g]
        rw [if_pos hw]
        refine .inl (alloc_wp (s := s) (by simpa using hrel) hmk fun u w' g1 g2 g3 => ?_)
        refine ih (listed.setIfInBounds i true) true w.heap.size rem s V _ _ (by simpa using hsz) ?_ hlen2 (fun _ => ⟨?_, g3, hsx.1.size⟩) hdown2 (fun _ k ok hok1 hk hki e he hb hei => ?_) hn hrun (by simpa using g1) (hsx.trans g2)
        · rw [hrem]
          apply List.filter_congr
          intro k hk
          by_cases hki : k = i
          · subst hki; simp [h0]
          · rw [getD_set_ne true (fun h => hki h.symm)]
            simp [hki]
        · simp [Array.getD_eq_getD_getElem?, hsz, hlt]
        · rw [getD_set_ne true (fun h => hki h.symm)] at hk
          have := ft _ (hdown k ok hok1 hk e he hb)
          rw [hei, h0] at this
          simp at this
      · -- another operation, when the variable does not come before it
        have go : ∀ (p : Bool) (rem : List Nat) (s : St) (V : Vw), rem = ord.filter (fun k => !listed.getD k true || (p && k == a0)) →
            (p = true → listed.getD a0 true = true ∧ Pend V w a D d0 x ∧ w0.heap.size ≤ x) →
            (p = true → ∀ i o, ops[i]? = some o → listed.getD i true = true → i ≠ a0 → ∀ e ∈ o.after, Region.binds .any e = true → e.on ≠ a0) →
            (p = true → a0 ∉ rem.takeWhile (· != i)) → (p = true → ∀ m j, Path ops m j → listed.getD m true = true → m ≠ a0 → j ≠ a0) →
            n0 ≤ s.L.length → RunN P Sg n0 ops cs late K rem s → RelS V ⟨if p = true then s.t.set d0 .any else s.t, s.L⟩ a w → SX V0 L0 w0 V s.L w →
            wpOp P ops Q i (wpAny P .any ops Q fuel (listed.setIfInBounds i true)) a w := by
          intro p rem s V hrem hp hdownA hnb hpathA hn hrun hrel hsx
          have hpr : rem.Pairwise (PairPP ops cs late a0) := by rw [hrem]; exact hpw.filter _
          have hnd : rem.Nodup := by rw [hrem]; exact List.Pairwise.filter _ hndo
          have hmemr : ∀ k, k ∈ rem ↔ k ∈ ord ∧ (listed.getD k true = false ∨ (p = true ∧ k = a0)) := fun k => by rw [hrem]; simp
          have hmem : i ∈ rem := (hmemr i).2 ⟨hall i hlt, .inl h0⟩
          have hrem' : rem.erase i = ord.filter (fun k => !(listed.setIfInBounds i true).getD k true || (p && k == a0)) := by
            rw [hrem]; exact filter_upd hsz hlt hndo hia
          have hno : ∀ j, j ∈ rem → listed.getD j false = true → p = true ∧ j = a0 := by
            intro j hj hl
            rcases ((hmemr j).1 hj).2 with h | h
            · rw [ft _ hl] at h; simp at h
            · exact h
          have hnp : ∀ j, j ∈ rem.takeWhile (· != i) → ¬ Path ops i j := fun j hj hpp => by
            have hl := hpath i j hpp (fun o' ho' e he hb => by rw [ho] at ho'; cases ho'; exact hallr e he hb)
            obtain ⟨q1, q2⟩ := hno j ((List.takeWhile_prefix _).subset hj) hl
            subst q2
            exact hnb q1 hj
          -- nothing of the waiting variable is looked at
          have hap : p = true → d0 ∉ o.looksAt ops ∧ o.dst ≠ some d0 := fun hpt => by
            have ha : a0 ∈ rem := (hmemr a0).2 ⟨hall a0 ha0s, .inr ⟨hpt, rfl⟩⟩
            have h := pw_after hpr hmem ha (fun e => hia e.symm) (hnb hpt)
            rcases h.sw with h | ⟨_, h | h⟩ | h
            · have hl := hpath a0 i h (fun o' ho' e he hb => hdown a0 o' ho' (hp hpt).1 e he hb)
              rw [ft _ hl] at h0; simp at h0
            · exact absurd h.1 ha0c
            · have hh := h.2
              unfold indepOps' at hh
              rw [ho, hoa] at hh
              simp only [Bool.and_eq_true] at hh
              obtain ⟨p1, p2, p3⟩ := Oper.apart_spec hh.1.2
              exact ⟨p1 d0 hmk.d, p2 d0 hmk.d⟩
            · exact h.2.2 o oa ho hoa d0 hmk.d
          have hback : AV.put (if p = true then s.t.set d0 .any else s.t) (if p = true then some d0 else none) (s.t.getD d0 .any) = s.t := by
            cases p with
            | false => rfl
            | true =>
              simp only [if_true, AV.put, List.set_set]
              apply List.ext_getElem?
              intro k
              rw [List.getElem?_set]
              split
              · rename_i hk; subst hk
                split
                · rename_i hl; simp [List.getD_eq_getElem?_getD, hl]
                · rename_i hl; rw [List.getElem?_eq_none (by omega)]
              · rfl
          have hfr : ∀ d, (if p = true then some d0 else none) = some d → d ∉ o.looksAt ops := fun d hdd => by
            split at hdd
            · rename_i hpt; cases hdd; exact (hap hpt).1
            · simp at hdd
          have hput : ∀ v, AV.put (if p = true then s.t.set d0 .any else s.t) o.dst v = if p = true then (AV.put s.t o.dst v).set d0 .any else AV.put s.t o.dst v := fun v => by
            split
            · rename_i hpt
              exact put_comm (x := some d0) (fun d hdd => by cases hdd; exact (hap hpt).2)
            · rfl
          have hnext : ∀ (t' : List AV) (L' : List Blk) (u : Value) (w' : World) (V' : Vw), n0 ≤ L'.length → RunN P Sg n0 ops cs late K (rem.erase i) ⟨t', L'⟩ → RelS V' ⟨if p = true then t'.set d0 .any else t', L'⟩ (a.put o.dst u) w' → SX V s.L w V' L' w' → wpAny P .any ops Q fuel (listed.setIfInBounds i true) (a.put o.dst u) w' := fun t' L' u w' V' d1 d2 g1 g2 =>
            ih (listed.setIfInBounds i true) p x (rem.erase i) ⟨t', L'⟩ V' _ w' (by simpa using hsz) hrem' hlen2 (fun hpt => by
              obtain ⟨b1, b2, b4⟩ := hp hpt
              exact ⟨by rw [getD_set_ne true hia]; exact b1, b2.step g2.1 (hap hpt).2, b4⟩) hdown2 (fun hpt k ok hok1 hk hka e he hb => by
              by_cases hki : k = i
              · subst hki
                rw [ho] at hok1; cases hok1
                intro hea
                -- then the variable comes before
                have ha : a0 ∈ rem := (hmemr a0).2 ⟨hall a0 ha0s, .inr ⟨hpt, rfl⟩⟩
                exact (pw_after hpr hmem ha (fun e => hia e.symm) (hnb hpt)).dep o ho e he hb hea
              · rw [getD_set_ne true (fun h => hki h.symm)] at hk
                exact hdownA hpt k ok hok1 hk hka e he hb) d1 d2 g1 (hsx.trans g2)
          have hnextS : ∀ (u : Value) (w' : World) (V' : Vw) (v : AV) (L' : List Blk), n0 ≤ L'.length → RunN P Sg n0 ops cs late K (rem.erase i) ⟨AV.put s.t o.dst v, L'⟩ → RelS V' ⟨AV.put (if p = true then s.t.set d0 .any else s.t) o.dst v, L'⟩ (a.put o.dst u) w' → SX V s.L w V' L' w' → wpAny P .any ops Q fuel (listed.setIfInBounds i true) (a.put o.dst u) w' := fun u w' V' v L' d1 d2 g1 g2 => by
            rw [hput] at g1
            exact hnext _ _ _ _ _ d1 d2 g1 g2
          unfold wpOp
          simp only [ho]
          have hwa2 : wantedA ops (if p = true then s.t.set d0 .any else s.t) o = wantedA ops s.t o := by
            rw [← wantedA_put (t := if p = true then s.t.set d0 .any else s.t) (v := s.t.getD d0 .any) hfr, hback]
          have hev2 : evD P Sg n0 (St.ρ ⟨if p = true then s.t.set d0 .any else s.t, s.L⟩) s.L o.op = evD P Sg n0 s.ρ s.L o.op := by
            rw [← evD_congr (ρ_put (s := ⟨if p = true then s.t.set d0 .any else s.t, s.L⟩) (L := s.L) (v := s.t.getD d0 .any) hfr), hback]
          by_cases hic : i ∈ cs
          · obtain ⟨o', r1, r4⟩ := runN_call (c := i) hic rem s hn hmem hnd (fun j hj => by
                have hjr : j ∈ rem := (List.takeWhile_prefix _).subset hj
                rcases (pw_take rem hpr hmem j hj).sw with h | ⟨hjc, h | h⟩ | h
                · exact absurd h (hnp j hj)
                · exact ⟨hjc, h.2.1, h.2.2, dpB_no (hnp j hj)⟩
                · exact absurd hic h.1
                · exact absurd h.1 hia) (hpr.imp fun h => h.fr) (fun m hm hmr j hj => by
                obtain ⟨m1, m2⟩ := hl1 m hm
                have hmo := hall m m2
                have hjo := ((hmemr j).1 hj).1
                have hmj : m ≠ j := fun h => hmr (h ▸ hj)
                have hma : m ≠ a0 := fun h => ha0lt (h ▸ hm)
                have hml : listed.getD m true = true := by
                  cases h : listed.getD m true with
                  | true => rfl
                  | false => exact absurd ((hmemr m).2 ⟨hmo, .inl h⟩) hmr
                rcases pw_or hpw hmo hjo hmj with h | h
                · exact h.fr hm
                · rcases h.sw with h | ⟨_, h | h⟩ | h
                  · obtain ⟨q1, q2⟩ := hno j hj (hpath m j h (fun o' ho' e he hb => hdown m o' ho' hml e he hb))
                    exact absurd q2 (hpathA q1 m j h hml hma)
                  · exact absurd h.1 m1
                  · have hi := h.2
                    unfold indepOps' at hi
                    intro oj om hoj hom d hd
                    rw [hoj, hom] at hi
                    simp only [Bool.and_eq_true] at hi
                    obtain ⟨p1, p2, p3⟩ := Oper.apart_spec hi.1.1
                    exact ⟨p1 d hd, p2 d hd⟩
                  · exact absurd h.1 hma) hrun
            rw [ho] at r1; cases r1
            have r5 : CQ P Sg n0 ops ⟨if p = true then s.t.set d0 .any else s.t, s.L⟩ o _ := CQ_put (s := ⟨if p = true then s.t.set d0 .any else s.t, s.L⟩) (v := s.t.getD d0 .any) hfr (by rw [hback]; exact r4)
            unfold CQ at r5
            cases hwa : wantedA ops (if p = true then s.t.set d0 .any else s.t) o with
            | none => simp only [hwa] at r5; exact r5.elim
            | some b =>
              simp only [hwa] at r5
              have hw := wanted_sound hrel hwa
              cases b with
              | true =>
                rw [if_pos hw]
                simp only [wantQ_t, if_true] at r5
                cases he : evD P Sg n0 (St.ρ ⟨if p = true then s.t.set d0 .any else s.t, s.L⟩) s.L o.op with
                | none =>
                  rw [he] at r5
                  exact .inl (inl_wpU hrel r5 fun u w' V' v L' k1 g1 g2 => by
                    obtain ⟨q1, _, q3⟩ := k1
                    exact hnextS u w' V' v L' (Nat.le_trans hn q1) q3 g1 g2)
                | some r =>
                  rw [he] at r5
                  obtain ⟨v, L'⟩ := r
                  obtain ⟨q1, _, q3⟩ := r5
                  exact .inl (evD_wpU hP hS hrel he fun u w' V' g1 g2 => hnextS u w' V' v L' (Nat.le_trans hn q1) q3 g1 g2)
              | false =>
                rw [if_neg (by simp [hw])]
                simp only [wantQ_f, Bool.false_eq_true, if_false] at r5
                obtain ⟨q1, _, q3⟩ := r5
                exact hnextS _ w V (.tup []) s.L hn q3 (hrel.put hrel.rel (.refl _ _) (.refl _) (.tup _ _ rfl (by simp)) o.dst) (.refl _ _ _)
          · obtain ⟨s', d1, d2⟩ := runN_take hic rem s hn hmem hnd (fun j hj => by
                rcases (pw_take rem hpr hmem j hj).sw with h | ⟨hjc, h | h⟩ | h
                · exact absurd h (hnp j hj)
                · exact absurd h.1 hic
                · exact ⟨hjc, h.2⟩
                · exact absurd h.1 hia) hrun
            have hlen' := stepD_len d1
            unfold stepD at d1
            simp only [ho] at d1
            split at d1
            · rename_i b hb
              have hw := wanted_sound hrel (hwa2.trans hb)
              cases b with
              | true =>
                rw [if_pos hw]
                simp only [if_true, Option.map_eq_some_iff] at d1
                obtain ⟨⟨v, L'⟩, e1, rfl⟩ := d1
                exact .inl (evD_wpU hP hS hrel (hev2.trans e1) fun u w' V' g1 g2 => hnextS u w' V' v L' (Nat.le_trans hn hlen') d2 g1 g2)
              | false =>
                rw [if_neg (by simp [hw])]
                simp only [Bool.false_eq_true, if_false, Option.some.injEq] at d1
                subst d1
                exact hnextS _ w V (.tup []) s.L hn d2 (hrel.put hrel.rel (.refl _ _) (.refl _) (.tup _ _ rfl (by simp)) o.dst) (.refl _ _ _)
            · simp at d1
        by_cases hc : p = true ∧ a0 ∈ rem.takeWhile (· != i)
        · obtain ⟨hpt, hbef⟩ := hc
          subst hpt
          obtain ⟨b1, b2, b4⟩ := hp rfl
          have hpr : rem.Pairwise (PairPP ops cs late a0) := by rw [hrem]; exact hpw.filter _
          have hnd : rem.Nodup := by rw [hrem]; exact List.Pairwise.filter _ hndo
          have hmemr : ∀ k, k ∈ rem ↔ k ∈ ord ∧ (listed.getD k true = false ∨ k = a0) := fun k => by rw [hrem]; simp
          have hmem : i ∈ rem := (hmemr i).2 ⟨hall i hlt, .inl h0⟩
          have ha : a0 ∈ rem := (hmemr a0).2 ⟨hall a0 ha0s, .inr rfl⟩
          obtain ⟨s', V', f1, f2, f3, f4⟩ := hflush rem s V a w x hn ha hnd (fun j hj => by
            have hjr : j ∈ rem := (List.takeWhile_prefix _).subset hj
            have hja : j ≠ a0 := fun e => by have := takeWhile_p hj; simp [e] at this
            have hju : listed.getD j true = false := ((hmemr j).1 hjr).2.resolve_right hja
            rcases (pw_take rem hpr ha j hj).sw with h | ⟨hjc, h | h⟩ | h
            · have hl := hpath a0 j h (fun o' ho' e he hb => hdown a0 o' ho' b1 e he hb)
              rw [ft _ hl] at hju; simp at hju
            · exact absurd h.1 ha0c
            · exact ⟨hjc, h.2⟩
            · -- a special operation before the variable: not before i as well
              exfalso
              have hji : j ∈ rem.takeWhile (· != i) := takeWhile_trans hj hbef
              rcases (pw_take rem hpr hmem j hji).sw with h' | h' | h'
              · have hl := hpath i j h' (fun o' ho' e he hb => by rw [ho] at ho'; cases ho'; exact hallr e he hb)
                rw [ft _ hl] at hju; simp at hju
              · exact h'.1 h.2.1
              · exact hia h'.1) hrun (by simpa using hrel) b2 b4 hsx
          refine go false (rem.erase a0) s' V' ?_ (fun h => by simp at h) (fun h => by simp at h) (fun h => by simp at h) (fun h => by simp at h) f1 f2 (by simpa using f3) f4
          rw [hrem, List.Nodup.erase_eq_filter (List.Pairwise.filter _ hndo), List.filter_filter]
          apply List.filter_congr
          intro k hk
          by_cases hka : k = a0
          · subst hka; simp [b1]
          · have hkb : (k == a0) = false := by simpa using hka
            simp [bne, hkb]
        · exact go p rem s V hrem hp hdownA (fun hpt hm => hc ⟨hpt, hm⟩) (fun hpt m j hpp h1 h2 => hpathA hpt m j hpp h1 h2) hn hrun hrel hsx

structure PendQ (P : Program) (Sg : FuncId → Option (List AV → Option AV)) (n0 : Nat) (ops : Array Oper) (K : St → Prop) (s : St) : Prop where
  run : ∃ cs late ord a0 d D, anyOKP ops cs late ord a0 = true ∧ MkOK P (ops.getD a0 default) d D ∧ RunN P Sg n0 ops cs late K ord s

end Go.Ev
namespace Go.Ev
open Go Go.RowKit
variable [Gl] [Lit]

variable {P : Program} {Sg : FuncId → Option (List AV → Option AV)} {ops : Array Oper}


def quick : Op → Bool
  | .move _ | .assign _ | .binOp .. | .unOp .. | .load .. | .fieldAddr .. | .indexAddr .. | .alloc _ | .makeSlice .. | .buildSlice .. | .build .. | .slice .. | .field .. | .extract .. => true
  | .call { callee := .builtin .len, .. } => true
  | _ => false
theorem run_v {s : Sem Value} {w w' : World} {n : Next} (h : (do pure (Next.value (← s)) : Sem Next).run P w = .ok n w') : ∃ v, n = .value v := by
  rw [Sem.run_bind] at h
  cases hs : s.run P w with
  | ok v w2 =>
    rw [hs] at h
    simp only [Result.andThen_ok, Sem.run_pure] at h
    cases h
    exact ⟨v, rfl⟩
  | halt x w2 =>
    rw [hs] at h
    simp at h
theorem quick_run {o : Oper} (hq : quick o.op = true) {ev : Operand → Value} {w w' : World} {n : Next} (h : (execOp ev o).run P w = .ok n w') : ∃ v, n = .value v := by
  unfold execOp at h
  cases ho : o.op with
  | call c =>
    rw [ho] at hq h
    obtain ⟨cal, args, ts⟩ := c
    cases cal with
    | builtin b =>
      cases b <;> first | (simp [quick] at hq; done) | skip
      simp only [resolve, invoke, builtin, Sem.run_bind, Sem.run_pure, Result.andThen_ok] at h
      exact run_v (by rw [Sem.run_bind]; exact h)
    | _ => simp [quick] at hq
  | _ =>
    rw [ho] at hq h
    first
      | (simp [quick] at hq; done)
      | exact run_v h
      | (simp only [Sem.run_pure] at h; cases h; exact ⟨_, rfl⟩)
theorem upon_and {o : Oper} {a : Act} {w : World} {K K' : Act → World → Prop} {Q : Exit → Act → World → Prop} (hq : quick o.op = true) (h : o.wp P a w K Q) (h' : o.wp P a w K' Q) : o.wp P a w (fun a w => K a w ∧ K' a w) Q := by
  unfold Oper.wp at *
  cases hr : (execOp a.eval o).run P w with
  | ok n w' =>
    obtain ⟨v, rfl⟩ := quick_run hq hr
    rw [hr] at h h'
    exact ⟨h, h'⟩
  | halt x w' =>
    rw [hr] at h h'
    cases x <;> first | exact h | exact h.elim
theorem wpOp_and {i : Nat} {a : Act} {w : World} {K K' : Act → World → Prop} {Q : Exit → Act → World → Prop} (hq : ∀ o, ops[i]? = some o → quick o.op = true) (h : wpOp P ops Q i K a w) (h' : wpOp P ops Q i K' a w) : wpOp P ops Q i (fun a w => K a w ∧ K' a w) a w := by
  unfold wpOp at *
  cases ho : ops[i]? with
  | none => rw [ho] at h h'; exact ⟨h, h'⟩
  | some o =>
    rw [ho] at h h'
    simp only at h h' ⊢
    by_cases hw : Region.wanted o (yielded ops a.tmps) = true
    · rw [if_pos hw] at h h' ⊢
      rcases h with h | h
      · rcases h' with h' | h'
        · exact .inl (upon_and (hq o ho) h h')
        · exact .inr h'
      · exact .inr h
    · rw [if_neg hw] at h h' ⊢
      exact ⟨h, h'⟩

def addE (ops : Array Oper) (i j : Nat) : Array Oper := ops.modify j fun o => { o with after := o.after.push ⟨i, .data⟩ }
theorem addE_size (i j : Nat) : (addE ops i j).size = ops.size := by simp [addE]
theorem addE_get (i j k : Nat) : (addE ops i j)[k]? = (ops[k]?).map fun o => if k = j then { o with after := o.after.push ⟨i, .data⟩ } else o := by
  unfold addE
  rw [Array.getElem?_modify]
  by_cases h : j = k
  · subst h; simp
  · rw [if_neg h]
    cases ops[k]? <;> simp [Ne.symm h]
theorem addE_yielded (i j : Nat) (t : Array Value) : yielded (addE ops i j) t = yielded ops t := by
  funext k
  unfold yielded
  rw [addE_get]
  cases ops[k]? with
  | none => rfl
  | some o => by_cases h : k = j <;> simp [h]
theorem addE_op {i j k : Nat} {Q : Exit → Act → World → Prop} {K : Act → World → Prop} {a : Act} {w : World} : wpOp P (addE ops i j) Q k K a w ↔ wpOp P ops Q k K a w := by
  unfold wpOp
  rw [addE_get, addE_yielded]
  cases ops[k]? with
  | none => exact Iff.rfl
  | some o =>
    by_cases h : k = j
    · simp only [Option.map_some, if_pos h]; exact Iff.rfl
    · simp only [Option.map_some, if_neg h]
theorem addE_ready {i j k : Nat} {listed : Array Bool} : k ∈ Region.ready .any (addE ops i j) listed ↔ k ∈ Region.ready .any ops listed ∧ (k = j → listed.getD i false = true) := by
  rw [mem_ready, mem_ready]
  constructor
  · rintro ⟨h0, o, ho, ha⟩
    rw [addE_get] at ho
    cases hk : ops[k]? with
    | none => rw [hk] at ho; simp at ho
    | some o' =>
      rw [hk] at ho
      simp only [Option.map_some, Option.some.injEq] at ho
      subst ho
      refine ⟨⟨h0, o', rfl, fun e he hb => ha e ?_ hb⟩, fun h => ?_⟩
      · split
        · exact Array.mem_push_of_mem _ he
        · exact he
      · exact ha ⟨i, .data⟩ (by rw [if_pos h]; exact Array.mem_push_self) rfl
  · rintro ⟨⟨h0, o, ho, ha⟩, hj⟩
    refine ⟨h0, _, by rw [addE_get, ho]; rfl, fun e he hb => ?_⟩
    split at he
    · rename_i h
      rcases Array.mem_push.1 he with he | rfl
      · exact ha e he hb
      · exact hj h
    · exact ha e he hb
theorem ready_nil {l : Array Bool} {i j : Nat} (h : Region.ready .any ops l = []) : Region.ready .any (addE ops i j) l = [] := by
  rw [List.eq_nil_iff_forall_not_mem] at h ⊢
  exact fun k hk => h k (addE_ready.1 hk).1
theorem setT {l : Array Bool} {i k : Nat} (h : l.getD i false = true) : (l.setIfInBounds k true).getD i false = true := by
  rcases Nat.lt_or_ge i l.size with hi | hi
  · by_cases hk : k = i
    · subst hk; simp [Array.getD_eq_getD_getElem?, hi]
    · simp only [Array.getD_eq_getD_getElem?, Array.getElem?_setIfInBounds_ne hk] at h ⊢
      exact h
  · simp [Array.getD_eq_getD_getElem?, Array.getElem?_eq_none hi] at h
theorem setS {l : Array Bool} {i : Nat} (h : i < l.size) : (l.setIfInBounds i true).getD i false = true := by
  simp [Array.getD_eq_getD_getElem?, h]
theorem wpAny_same {i j : Nat} {Q : Exit → Act → World → Prop} : ∀ (fuel : Nat) (l : Array Bool) (a : Act) (w : World), l.getD i false = true → wpAny P .any (addE ops i j) Q fuel l a w → wpAny P .any ops Q fuel l a w
  | 0, l, a, w, hi, h => by
    refine ⟨?_, h.2⟩
    have := h.1
    rw [List.eq_nil_iff_forall_not_mem] at this ⊢
    exact fun k hk => this k (addE_ready.2 ⟨hk, fun _ => hi⟩)
  | fuel + 1, l, a, w, hi, h => by
    refine ⟨fun hr => h.1 (ready_nil hr), fun k hk => ?_⟩
    exact wpOp_mono (fun a w h => wpAny_same fuel _ a w (setT hi) h) (addE_op.1 (h.2 k (addE_ready.2 ⟨hk, fun _ => hi⟩)))
def cntU (n : Nat) (l : Array Bool) : Nat := ((List.range n).filter fun k => !l.getD k true).length
theorem cntU_set {n : Nat} {l : Array Bool} (hl : l.size = n) {k : Nat} (h : l.getD k true = false) (hk : k < n) : cntU n (l.setIfInBounds k true) + 1 = cntU n l := by
  unfold cntU
  have hm : k ∈ (List.range n).filter fun k => !l.getD k true := by rw [List.mem_filter]; exact ⟨List.mem_range.2 hk, by rw [h]; rfl⟩
  have := filter_upd (ord := List.range n) (p := false) (listed := l) (a0 := k + 1) (i := k) (n := n) hl hk List.nodup_range (by omega)
  simp only [Bool.false_and, Bool.or_false] at this
  rw [← this, List.length_erase_of_mem hm]
  have := List.length_pos_of_mem hm
  omega
theorem wpAny_split {i j : Nat} (hij : i ≠ j) (hi : i < ops.size) (hj : j < ops.size)
    (hq : ∀ k o, k ≠ i → k ≠ j → ops[k]? = some o → quick o.op = true ∨ ∃ e ∈ o.after, Region.binds .any e = true ∧ (e.on = i ∨ e.on = j)) {Q : Exit → Act → World → Prop} :
    ∀ (fuel : Nat) (l : Array Bool) (a : Act) (w : World), l.size = ops.size → cntU ops.size l = fuel → l.getD i true = false → l.getD j true = false →
      wpAny P .any (addE ops i j) Q fuel l a w → wpAny P .any (addE ops j i) Q fuel l a w → wpAny P .any ops Q fuel l a w
  | 0, l, a, w, hs, hf, li, lj, h1, h2 => by
    exfalso
    have : i ∈ (List.range ops.size).filter fun k => !l.getD k true := by rw [List.mem_filter]; exact ⟨List.mem_range.2 hi, by rw [li]; rfl⟩
    unfold cntU at hf
    have := List.length_pos_of_mem this
    omega
  | fuel + 1, l, a, w, hs, hf, li, lj, h1, h2 => by
    refine ⟨fun hr => h1.1 (ready_nil hr), fun k hk => ?_⟩
    obtain ⟨k0, o, ho, ha⟩ := mem_ready.1 hk
    have hks : k < ops.size := (Array.getElem?_eq_some_iff.1 ho).1
    by_cases e1 : k = i
    · subst e1
      have := addE_op.1 (h1.2 k (addE_ready.2 ⟨hk, fun e => absurd e hij⟩))
      exact wpOp_mono (fun a w h => wpAny_same fuel _ a w (setS (by omega)) h) this
    · by_cases e2 : k = j
      · subst e2
        have := addE_op.1 (h2.2 k (addE_ready.2 ⟨hk, fun e => absurd e e1⟩))
        exact wpOp_mono (fun a w h => wpAny_same fuel _ a w (setS (by omega)) h) this
      · have g1 := addE_op.1 (h1.2 k (addE_ready.2 ⟨hk, fun e => absurd e e2⟩))
        have g2 := addE_op.1 (h2.2 k (addE_ready.2 ⟨hk, fun e => absurd e e1⟩))
        have hne : ∀ {x : Nat}, l.getD x true = false → l.getD x false = true → False := fun {x} hx hy => by
          rcases Nat.lt_or_ge x l.size with h | h
          · simp [Array.getD_eq_getD_getElem?, h] at hx hy; rw [hx] at hy; simp at hy
          · simp [Array.getD_eq_getD_getElem?, Array.getElem?_eq_none h] at hx
        have hqk : ∀ o, ops[k]? = some o → quick o.op = true := fun o' ho' => by
          rcases hq k o' e1 e2 ho' with h | ⟨e, he, hb, hon⟩
          · exact h
          · exfalso
            rw [ho] at ho'
            cases ho'
            have := ha e he hb
            rcases hon with hon | hon
            · rw [hon] at this; exact hne li this
            · rw [hon] at this; exact hne lj this
        refine wpOp_mono (fun a w h => wpAny_split hij hi hj hq fuel _ a w (by simpa using hs) ?_ ?_ ?_ h.1 h.2) (wpOp_and hqk g1 g2)
        · have := cntU_set hs k0 hks
          omega
        · rw [getD_set_ne true e1]; exact li
        · rw [getD_set_ne true e2]; exact lj
inductive DrawT (P : Program) (Sg : FuncId → Option (List AV → Option AV)) (n0 : Nat) (K : St → Prop) (s : St) : Array Oper → Prop
  | any {ops : Array Oper} (cs late ord : List Nat) : anyOK ops cs late ord = true → RunN P Sg n0 ops cs late K ord s → DrawT P Sg n0 K s ops
  | pend {ops : Array Oper} : PendQ P Sg n0 ops K s → DrawT P Sg n0 K s ops
  | split {ops : Array Oper} (i j : Nat) : i ≠ j → i < ops.size → j < ops.size →
      (∀ k o, k ≠ i → k ≠ j → ops[k]? = some o → quick o.op = true ∨ ∃ e ∈ o.after, Region.binds .any e = true ∧ (e.on = i ∨ e.on = j)) →
      DrawT P Sg n0 K s (addE ops i j) → DrawT P Sg n0 K s (addE ops j i) → DrawT P Sg n0 K s ops
theorem cntU_none (n : Nat) : cntU n (Array.replicate n false) = n := by
  unfold cntU
  rw [List.filter_eq_self.2 fun k hk => ?_, List.length_range]
  have := List.mem_range.1 hk
  simp [Array.getD_eq_getD_getElem?, this]
theorem DrawT.wp (hP : PF P) (hS : Sound P Sg) {K : St → Prop} {s : St} {Q : Exit → Act → World → Prop} {V : Vw} {a : Act} {w : World} (hrel : RelS V s a w)
    (hQ : ∀ sf a' w' V', K sf → RelS V' sf a' w' → SX V s.L w V' sf.L w' → Q .normal a' w') :
    ∀ {ops : Array Oper}, DrawT P Sg s.L.length K s ops → wpAny P .any ops Q ops.size (Array.replicate ops.size false) a { w with drawn := w.drawn + 1 } := by
  intro ops h
  induction h with
  | @any ops cs late ord hok h =>
    have hok' := hok
    unfold anyOK at hok'
    simp only [Bool.and_eq_true, decide_eq_true_eq, List.all_eq_true, List.mem_range] at hok'
    refine wpAny_of_runN hP hS hok (n0 := s.L.length) _ _ ord s V a _ (by simp) ?_ (by simp [hok'.2.1]) ?_ (Nat.le_refl _) h (hrel.drawn _) ?_
    · symm
      rw [List.filter_eq_self]
      intro k hk
      have hk' := hok'.2.2.1 k hk
      simp [Array.getD_eq_getD_getElem?, hk']
    · intro i o ho hli
      have hi : i < ops.size := (Array.getElem?_eq_some_iff.1 ho).1
      simp [Array.getD_eq_getD_getElem?, hi] at hli
    · intro sf a' w' V' g0 g1 g2
      exact hQ sf a' w' V' g0 g1 ⟨(Step.drawn V w _).trans g2.1, g2.2⟩
  | @pend ops h =>
    obtain ⟨cs, late, ord, a0, d, D, hok, hmk, h⟩ := h.run
    have hok' := hok
    unfold anyOKP at hok'
    simp only [Bool.and_eq_true, decide_eq_true_eq, List.all_eq_true, List.mem_range] at hok'
    obtain ⟨k1, k2, k3, k4, k5, k6, k7, hnew, ha0, k8, k9⟩ := hok'
    have hoa : ops[a0]? = some (ops.getD a0 default) := by simp [Array.getD_eq_getD_getElem?, ha0]
    have hnone : ∀ k ∈ ord, (Array.replicate ops.size false).getD k true = false := fun k hk => by
      have := k3 k hk
      simp [Array.getD_eq_getD_getElem?, this]
    refine wpAny_of_runP hP hS hok (V0 := V) (L0 := s.L) (w0 := _) (hrel.drawn _).rel ?_ hoa hmk _ _ false 0 ord s V a _ (by simp) ?_ ?_ (fun h => by simp at h) ?_ (fun h => by simp at h) (Nat.le_refl _) h (by rw [if_neg (by simp)]; exact hrel.drawn _) (.refl _ _ _)
    · intro sf a' w' V' g0 g1 g2
      exact hQ sf a' w' V' g0 g1 ⟨(Step.drawn V w _).trans g2.1, g2.2⟩
    · symm
      rw [List.filter_eq_self]
      intro k hk
      rw [hnone k hk]; rfl
    · rw [List.filter_eq_self.2 (fun k hk => by rw [hnone k hk]; rfl), k2]
    · intro i o ho hli
      have hi : i < ops.size := (Array.getElem?_eq_some_iff.1 ho).1
      simp [Array.getD_eq_getD_getElem?, hi] at hli
  | @split ops i j hij hi hj hq _ _ ih1 ih2 =>
    rw [addE_size] at ih1 ih2
    refine wpAny_split hij hi hj hq _ _ _ _ (by simp) (cntU_none _) ?_ ?_ ih1 ih2
    · simp [Array.getD_eq_getD_getElem?, hi]
    · simp [Array.getD_eq_getD_getElem?, hj]
theorem AW.drawT (hP : PF P) (hS : Sound P Sg) {id : Nat} {Q : Exit → St → Prop} {s : St} (h : DrawT P Sg s.L.length (Q .normal) s ops) :
    AW P (.region id ops true) Q s := by
  intro V a w hrel
  exact wp_region_any hP.mixed (h.wp hP hS hrel fun sf a' w' V' g0 g1 g2 => ⟨sf, V', g0, g1, g2⟩)

def addL : List Oper → Nat → Nat → List Oper
  | [], _, _ => []
  | o :: l, i, 0 => { o with after := o.after.push ⟨i, .data⟩ } :: l
  | o :: l, i, j + 1 => o :: addL l i j
theorem addL_0 (o : Oper) (l : List Oper) (i : Nat) : addL (o :: l) i 0 = { o with after := o.after.push ⟨i, .data⟩ } :: l := rfl
theorem addL_s (o : Oper) (l : List Oper) (i j : Nat) : addL (o :: l) i (j + 1) = o :: addL l i j := rfl
theorem addL_eq : ∀ (l : List Oper) (i j : Nat), addL l i j = l.modify j fun o => { o with after := o.after.push ⟨i, .data⟩ }
  | [], _, _ => by simp [addL]
  | o :: l, i, 0 => rfl
  | o :: l, i, j + 1 => by rw [addL_s, addL_eq l i j]; rfl
theorem addE_list (l : List Oper) (i j : Nat) : addE l.toArray i j = (addL l i j).toArray := by
  rw [addL_eq]
  unfold addE
  simp
def splitOK (l : List Oper) (i j : Nat) : Bool :=
  i != j && (decide (i < l.length) && (decide (j < l.length) && (List.range l.length).all fun k => k == i || (k == j || (quick (l.getD k default).op || (l.getD k default).after.toList.any fun e => Region.binds .any e && (e.on == i || e.on == j)))))
theorem DrawT.parts (i j : Nat) {n0 : Nat} {l : List Oper} {K : St → Prop} {s : St} (hok : splitOK l i j = true)
    (h1 : DrawT P Sg n0 K s (addL l i j).toArray) (h2 : DrawT P Sg n0 K s (addL l j i).toArray) : DrawT P Sg n0 K s l.toArray := by
  unfold splitOK at hok
  simp only [Bool.and_eq_true, bne_iff_ne, decide_eq_true_eq, List.all_eq_true, List.mem_range] at hok
  obtain ⟨a1, a2, a3, a4⟩ := hok
  refine .split i j a1 (by simpa using a2) (by simpa using a3) (fun k o k1 k2 ho => ?_) (by rw [addE_list]; exact h1) (by rw [addE_list]; exact h2)
  have hk : k < l.length := by
    have := (Array.getElem?_eq_some_iff.1 ho).1
    simpa using this
  have hg : l.getD k default = o := by
    rw [List.getElem?_toArray] at ho
    rw [List.getD_eq_getElem?_getD, ho]; rfl
  have := a4 k hk
  rw [hg] at this
  simp only [Bool.or_eq_true, beq_iff_eq, List.any_eq_true, Bool.and_eq_true] at this
  rcases this with h | h | h | ⟨e, he, hb, hon⟩
  · exact absurd h k1
  · exact absurd h k2
  · exact .inl h
  · exact .inr ⟨e, by simpa using he, hb, hon⟩
end Go.Ev
namespace Go.Ev
open Go Go.RowKit
variable [Gl] [Lit]

variable {P : Program} {Sg Sd : FuncId → Option (List AV → Option AV)}


def DrawQ (P : Program) (Sd : FuncId → Option (List AV → Option AV)) (n0 : Nat) (ops : Array Oper) (K : St → Prop) (s : St) : Prop :=
  RegQ ops (runQ P Sd n0 ops ops.toList K s) ∨ DrawT P Sd n0 K s ops
def vc3 (P : Program) (Sg Sd : FuncId → Option (List AV → Option AV)) : Code → (Exit → St → Prop) → St → Prop
  | .skip, Q, s => Q .normal s
  | .label _, Q, s => Q .normal s
  | .ret, Q, s => Q .ret s
  | .exit id, Q, s => Q (.exit id) s
  | .seq a b, Q, s => vc3 P Sg Sd a (thenA (vc3 P Sg Sd b Q) Q) s
  | .cond c a b, Q, s => condQ (s.ρ c) (vc3 P Sg Sd a Q) (vc3 P Sg Sd b Q) s
  | .block id c, Q, s => vc3 P Sg Sd c (blockA id Q) s
  | .region _ ops true, Q, s => DrawQ P Sd s.L.length ops (Q .normal) s
  | .region _ ops false, Q, s => InlQ P Sg ops ops.toList (Q .normal) s
  | .loop c, Q, s => LoopQ (vc3 P Sg Sd c) Q s
  | _, _, _ => False

theorem vc3_sound (hP : PF P) (hS : Sound P Sg) (hD : Sound P Sd) : ∀ (c : Code) (Q : Exit → St → Prop) (s : St), vc3 P Sg Sd c Q s → AW P c Q s
  | .skip, _, _, h => .skip h
  | .label _, _, _, h => .label h
  | .ret, _, _, h => .ret h
  | .exit _, _, _, h => .exit h
  | .seq a b, Q, s, h => .seq (AW.mono (vc3_sound hP hS hD a _ s h) fun e s hq => by
      cases e with
      | normal => exact vc3_sound hP hS hD b Q s hq
      | _ => exact hq)
  | .cond c a b, Q, s, h => by
    unfold vc3 condQ at h
    split at h
    · rename_i ht; exact .cond ht (by rw [if_pos rfl]; exact vc3_sound hP hS hD a Q s h)
    · rename_i ht; exact .cond ht (by rw [if_neg (by simp)]; exact vc3_sound hP hS hD b Q s h)
    · exact h.elim
  | .block id c, Q, s, h => .block (vc3_sound hP hS hD c _ s h)
  | .region id ops draw, Q, s, h => by
    obtain ⟨l, rfl⟩ : ∃ l : List Oper, ops = l.toArray := ⟨ops.toList, by simp⟩
    cases draw with
    | true =>
      rcases h with h | h
      · exact .drawS hP hD h.1 (by have := h.2; unfold runQ at this; simpa using this)
      · exact .drawT hP hD h
    | false => exact .region hP hS h
  | .loop c, Q, s, h => by
    obtain ⟨Inv, n0, G, hG, h0, hs⟩ := h
    exact .loopR Inv hG h0 fun n s hi => vc3_sound hP hS hD c _ s (hs n s hi)
  | .rangeFunc .., _, _, h => h.elim
  | .scope _, _, _, h => h.elim
  | .goto _, _, _, h => h.elim
  | .refuse _, _, _, h => h.elim

theorem vc3_skip {Q : Exit → St → Prop} {s : St} : vc3 P Sg Sd .skip Q s = Q .normal s := rfl
theorem vc3_label {l : Nat} {Q : Exit → St → Prop} {s : St} : vc3 P Sg Sd (.label l) Q s = Q .normal s := rfl
theorem vc3_ret {Q : Exit → St → Prop} {s : St} : vc3 P Sg Sd .ret Q s = Q .ret s := rfl
theorem vc3_exit {id : Nat} {Q : Exit → St → Prop} {s : St} : vc3 P Sg Sd (.exit id) Q s = Q (.exit id) s := rfl
theorem vc3_seq {a b : Code} {Q : Exit → St → Prop} {s : St} : vc3 P Sg Sd (.seq a b) Q s = vc3 P Sg Sd a (thenA (vc3 P Sg Sd b Q) Q) s := rfl
theorem vc3_cond {c : Operand} {a b : Code} {Q : Exit → St → Prop} {s : St} : vc3 P Sg Sd (.cond c a b) Q s = condQ (s.ρ c) (vc3 P Sg Sd a Q) (vc3 P Sg Sd b Q) s := rfl
theorem vc3_block {id : Nat} {c : Code} {Q : Exit → St → Prop} {s : St} : vc3 P Sg Sd (.block id c) Q s = vc3 P Sg Sd c (blockA id Q) s := rfl
theorem vc3_draw {id : Nat} {l : List Oper} {Q : Exit → St → Prop} {s : St} : vc3 P Sg Sd (.region id l.toArray true) Q s = DrawQ P Sd s.L.length l.toArray (Q .normal) s := rfl
theorem vc3_inl {id : Nat} {l : List Oper} {Q : Exit → St → Prop} {s : St} : vc3 P Sg Sd (.region id l.toArray false) Q s = InlQ P Sg l.toArray l (Q .normal) s := rfl
theorem vc3_loop {c : Code} {Q : Exit → St → Prop} {s : St} : vc3 P Sg Sd (.loop c) Q s = LoopQ (vc3 P Sg Sd c) Q s := rfl
attribute [go_sem] vc3_skip vc3_label vc3_ret vc3_exit vc3_seq vc3_cond vc3_block vc3_draw vc3_inl vc3_loop

theorem law3 {f : FuncId} {fn : Func} {c : Code} (hf : P.funcs[f]? = some fn) (hb : fn.body = some c) (hP : PF P) (hS : Sound P Sg) (hD : Sound P Sd) {args : List AV} {b : Bool}
    (h : vc3 P Sg Sd c (DoneQ P fn fun rv L => exp 1 L rv = .bool b) ⟨args ++ List.replicate (fn.ntmps - args.length) .any, []⟩) : CSpec P f args (.bool b) :=
  CSpec.intro hf hb (.bool b) (vc3_sound hP hS hD _ _ _ h)

def opsAt (l : List Oper) : List Nat → List Oper
  | [] => []
  | i :: r => l.getD i default :: opsAt l r
def stabQ (P : Program) (Sd : FuncId → Option (List AV → Option AV)) (n0 : Nat) (ops : Array Oper) (s : St) : List Oper → Prop
  | [] => True
  | o :: r => runQ P Sd n0 ops [o] (fun s' => s' = s) s ∧ stabQ P Sd n0 ops s r
theorem stabQ_nil {n0 : Nat} {ops : Array Oper} {s : St} : stabQ P Sd n0 ops s [] = True := rfl
theorem stabQ_cons {n0 : Nat} {ops : Array Oper} {s : St} {o : Oper} {r : List Oper} : stabQ P Sd n0 ops s (o :: r) = (runQ P Sd n0 ops [o] (fun s' => s' = s) s ∧ stabQ P Sd n0 ops s r) := rfl
theorem stepD_opS {n0 : Nat} {l : List Oper} {i : Nat} {s : St} (e0 : l.toArray[i]? = some (l.getD i default)) : stepD P Sd n0 l.toArray i s = opS P Sd n0 l.toArray (l.getD i default) s := by
  unfold stepD opS
  rw [e0]
  simp only
  cases wantedA l.toArray s.t (l.getD i default) with
  | none => rfl
  | some b => cases b <;> rfl
def cqC (P : Program) (Sd : FuncId → Option (List AV → Option AV)) (n0 : Nat) (ops : Array Oper) (late : List Oper) (o : Oper) (K : St → Prop) (t : List AV) (L : List Blk) (v : AV) (L' : List Blk) : Prop :=
  L.length ≤ L'.length ∧ stabQ P Sd n0 ops ⟨t, L'⟩ late ∧ K ⟨AV.put t o.dst v, L'⟩
def cqK (P : Program) (Sd : FuncId → Option (List AV → Option AV)) (n0 : Nat) (ops : Array Oper) (late : List Oper) (o : Oper) (K : St → Prop) (t : List AV) (L : List Blk) (b : Bool) : Prop :=
  if b = true then opQ (evD P Sd n0 (St.ρ ⟨t, L⟩) L o.op) (InlK P ⟨t, L⟩ o) (cqC P Sd n0 ops late o K t L) else cqC P Sd n0 ops late o K t L (.tup []) L
def cqQ (P : Program) (Sd : FuncId → Option (List AV → Option AV)) (n0 : Nat) (ops : Array Oper) (late : List Oper) (o : Oper) (K : St → Prop) (s : St) : Prop :=
  wantQ (wantedA ops s.t o) (cqK P Sd n0 ops late o K s.t s.L)
theorem cqQ_eq {n0 : Nat} {ops : Array Oper} {late : List Oper} {o : Oper} {K : St → Prop} {t : List AV} {L : List Blk} : cqQ P Sd n0 ops late o K ⟨t, L⟩ = wantQ (wantedA ops t o) (cqK P Sd n0 ops late o K t L) := rfl
theorem cqK_t {n0 : Nat} {ops : Array Oper} {late : List Oper} {o : Oper} {K : St → Prop} {t : List AV} {L : List Blk} : cqK P Sd n0 ops late o K t L true = opQ (evD P Sd n0 (St.ρ ⟨t, L⟩) L o.op) (InlK P ⟨t, L⟩ o) (cqC P Sd n0 ops late o K t L) := rfl
theorem cqK_f {n0 : Nat} {ops : Array Oper} {late : List Oper} {o : Oper} {K : St → Prop} {t : List AV} {L : List Blk} : cqK P Sd n0 ops late o K t L false = cqC P Sd n0 ops late o K t L (.tup []) L := rfl
theorem cqC_eq {n0 : Nat} {ops : Array Oper} {late : List Oper} {o : Oper} {K : St → Prop} {t : List AV} {L : List Blk} {v : AV} {L' : List Blk} : cqC P Sd n0 ops late o K t L v L' = (L.length ≤ L'.length ∧ stabQ P Sd n0 ops ⟨t, L'⟩ late ∧ K ⟨AV.put t o.dst v, L'⟩) := rfl
def segQ (P : Program) (Sd : FuncId → Option (List AV → Option AV)) (n0 : Nat) (l late : List Oper) (K : St → Prop) : List (List Nat × Nat) → List Nat → St → Prop
  | [], last, s => runQ P Sd n0 l.toArray (opsAt l last) K s
  | (pre, c) :: r, last, s => runQ P Sd n0 l.toArray (opsAt l pre) (cqQ P Sd n0 l.toArray late (l.getD c default) (segQ P Sd n0 l late K r last)) s
theorem segQ_nil {n0 : Nat} {l late : List Oper} {K : St → Prop} {last : List Nat} {s : St} : segQ P Sd n0 l late K [] last s = runQ P Sd n0 l.toArray (opsAt l last) K s := rfl
theorem segQ_cons {n0 : Nat} {l late : List Oper} {K : St → Prop} {pre : List Nat} {c : Nat} {r : List (List Nat × Nat)} {last : List Nat} {s : St} :
    segQ P Sd n0 l late K ((pre, c) :: r) last s = runQ P Sd n0 l.toArray (opsAt l pre) (cqQ P Sd n0 l.toArray late (l.getD c default) (segQ P Sd n0 l late K r last)) s := rfl

theorem runS_runN {n0 : Nat} {cs late : List Nat} {l : List Oper} {K : St → Prop} {rest : List Nat} : ∀ (pre : List Nat) (s s1 : St), (∀ i ∈ pre, i ∉ cs ∧ i < l.length) → runS P Sd n0 l.toArray (opsAt l pre) s = some s1 →
    RunN P Sd n0 l.toArray cs late K rest s1 → RunN P Sd n0 l.toArray cs late K (pre ++ rest) s
  | [], s, s1, _, h, k => by
    simp only [opsAt, runS, Option.some.injEq] at h
    subst h; exact k
  | i :: pre, s, s1, hi, h, k => by
    have hii := hi i (by simp)
    simp only [opsAt, runS, Option.bind_eq_some_iff] at h
    obtain ⟨s2, h1, h2⟩ := h
    rw [List.cons_append]
    unfold RunN
    rw [if_neg hii.1]
    refine ⟨s2, ?_, runS_runN pre s2 s1 (fun j hj => hi j (by simp [hj])) h2 k⟩
    have e0 : l.toArray[i]? = some (l.getD i default) := by simp [hii.2]
    rw [← h1]
    exact stepD_opS e0

theorem runQ_some {n0 : Nat} {ops : Array Oper} {l : List Oper} {K : St → Prop} {s : St} (h : runQ P Sd n0 ops l K s) : ∃ s1, runS P Sd n0 ops l s = some s1 ∧ K s1 := by
  unfold runQ at h
  cases hr : runS P Sd n0 ops l s with
  | none => rw [hr] at h; exact h.elim
  | some s1 => rw [hr] at h; exact ⟨s1, rfl, h⟩

theorem stabQ_all {n0 : Nat} {l : List Oper} {s : St} : ∀ {late : List Nat}, (∀ i ∈ late, i < l.length) → stabQ P Sd n0 l.toArray s (opsAt l late) → ∀ j ∈ late, stepD P Sd n0 l.toArray j s = some s
  | [], _, _, j, hj => by simp at hj
  | i :: late, hi, h, j, hj => by
    simp only [opsAt, stabQ] at h
    rcases List.mem_cons.1 hj with rfl | hj
    · obtain ⟨s1, h1, rfl⟩ := runQ_some h.1
      have e0 : l.toArray[j]? = some (l.getD j default) := by simp [hi j (by simp)]
      simp only [runS, Option.bind_eq_some_iff] at h1
      obtain ⟨s2, h2, h3⟩ := h1
      simp only [Option.some.injEq] at h3
      subst h3
      rw [stepD_opS e0]; exact h2
    · exact stabQ_all (fun k hk => hi k (by simp [hk])) h.2 j hj

def flatS (segs : List (List Nat × Nat)) (last : List Nat) : List Nat := segs.foldr (fun x r => x.1 ++ x.2 :: r) last
theorem segQ_runN {n0 : Nat} {cs late : List Nat} {l : List Oper} {K : St → Prop} {last : List Nat} (hl : ∀ i ∈ late, i < l.length) (hla : ∀ i ∈ last, i ∉ cs ∧ i < l.length) : ∀ (segs : List (List Nat × Nat)) (s : St),
    (∀ x ∈ segs, (∀ i ∈ x.1, i ∉ cs ∧ i < l.length) ∧ x.2 ∈ cs ∧ x.2 < l.length) → segQ P Sd n0 l (opsAt l late) K segs last s → RunN P Sd n0 l.toArray cs late K (flatS segs last) s
  | [], s, _, h => by
    obtain ⟨s1, h1, h2⟩ := runQ_some h
    have := runS_runN (cs := cs) (late := late) (K := K) (rest := []) last s s1 hla h1 (by unfold RunN; exact h2)
    simpa [flatS] using this
  | (pre, c) :: r, s, hs, h => by
    obtain ⟨s1, h1, h2⟩ := runQ_some h
    have hx := hs (pre, c) (by simp)
    refine runS_runN pre s s1 hx.1 h1 ?_
    unfold RunN
    rw [if_pos hx.2.1]
    refine ⟨l.getD c default, by simp [hx.2.2], ?_⟩
    unfold cqQ at h2
    unfold CQ
    cases hw : wantedA l.toArray s1.t (l.getD c default) with
    | none => rw [hw] at h2; exact h2.elim
    | some b =>
      rw [hw] at h2
      have fin : ∀ v L', cqC P Sd n0 l.toArray (opsAt l late) (l.getD c default) (segQ P Sd n0 l (opsAt l late) K r last) s1.t s1.L v L' → s1.L.length ≤ L'.length ∧ (∀ j ∈ late, j ∉ flatS r last → dpB l.toArray c j = false → stepD P Sd n0 l.toArray j ⟨s1.t, L'⟩ = some ⟨s1.t, L'⟩) ∧ RunN P Sd n0 l.toArray cs late K (flatS r last) ⟨AV.put s1.t (l.getD c default).dst v, L'⟩ := by
        rintro v L' ⟨k1, k2, k3⟩
        exact ⟨k1, fun j hj _ _ => stabQ_all hl k2 j hj, segQ_runN hl hla r _ (fun x hx => hs x (by simp [hx])) k3⟩
      cases b with
      | true => exact opQ_mono (InlK.mono fin) fin h2
      | false => exact fin _ _ h2

def segsOK (n : Nat) (cs : List Nat) (segs : List (List Nat × Nat)) (last : List Nat) : Bool :=
  segs.all (fun x => x.1.all (fun i => !cs.contains i && decide (i < n)) && (cs.contains x.2 && decide (x.2 < n))) && last.all (fun i => !cs.contains i && decide (i < n))
theorem DrawT.segs (segs : List (List Nat × Nat)) (last late : List Nat) {n0 : Nat} {l : List Oper} {K : St → Prop} {s : St}
    (hok : (anyOK l.toArray (segs.map (·.2)) late (flatS segs last) && segsOK l.length (segs.map (·.2)) segs last) = true)
    (h : segQ P Sd n0 l (opsAt l late) K segs last s) : DrawT P Sd n0 K s l.toArray := by
  simp only [Bool.and_eq_true] at hok
  obtain ⟨hok, hseg⟩ := hok
  refine .any _ late (flatS segs last) hok ?_
  have hok' := hok
  unfold anyOK at hok'
  simp only [Bool.and_eq_true, decide_eq_true_eq, List.all_eq_true, List.mem_range, List.size_toArray] at hok'
  obtain ⟨_, _, _, _, hl0, _⟩ := hok'
  unfold segsOK at hseg
  simp only [Bool.and_eq_true, List.all_eq_true, Bool.not_eq_true', decide_eq_true_eq, List.contains_iff_mem] at hseg
  refine segQ_runN (fun i hi => ?_) (fun i hi => ?_) segs s (fun x hx => ⟨fun i hi => ?_, (hseg.1 x hx).2⟩) h
  · have := hl0 i hi
    simp at this
    exact this.2
  · have := hseg.2 i hi
    exact ⟨fun hm => by rw [List.contains_iff_mem.2 hm] at this; simp at this, this.2⟩
  · have := (hseg.1 x hx).1 i hi
    exact ⟨fun hm => by rw [List.contains_iff_mem.2 hm] at this; simp at this, this.2⟩
theorem DrawQ.any (segs : List (List Nat × Nat)) (last late : List Nat) {n0 : Nat} {l : List Oper} {K : St → Prop} {s : St}
    (hok : (anyOK l.toArray (segs.map (·.2)) late (flatS segs last) && segsOK l.length (segs.map (·.2)) segs last) = true)
    (h : segQ P Sd n0 l (opsAt l late) K segs last s) : DrawQ P Sd n0 l.toArray K s :=
  .inr (DrawT.segs segs last late hok h)

def seg2Q (P : Program) (Sd : FuncId → Option (List AV → Option AV)) (n0 : Nat) (l : List Oper) (K : St → Prop) : List (List Nat × Nat × List Nat) → List Nat → St → Prop
  | [], last, s => runQ P Sd n0 l.toArray (opsAt l last) K s
  | (pre, c, lt) :: r, last, s => runQ P Sd n0 l.toArray (opsAt l pre) (cqQ P Sd n0 l.toArray (opsAt l lt) (l.getD c default) (seg2Q P Sd n0 l K r last)) s
theorem seg2Q_nil {n0 : Nat} {l : List Oper} {K : St → Prop} {last : List Nat} {s : St} : seg2Q P Sd n0 l K [] last s = runQ P Sd n0 l.toArray (opsAt l last) K s := rfl
theorem seg2Q_cons {n0 : Nat} {l : List Oper} {K : St → Prop} {pre : List Nat} {c : Nat} {lt : List Nat} {r : List (List Nat × Nat × List Nat)} {last : List Nat} {s : St} :
    seg2Q P Sd n0 l K ((pre, c, lt) :: r) last s = runQ P Sd n0 l.toArray (opsAt l pre) (cqQ P Sd n0 l.toArray (opsAt l lt) (l.getD c default) (seg2Q P Sd n0 l K r last)) s := rfl
def flat2 (segs : List (List Nat × Nat × List Nat)) (last : List Nat) : List Nat := segs.foldr (fun x r => x.1 ++ x.2.1 :: r) last
def segs2OK (ms : List Nat) (n : Nat) (cs late last : List Nat) : List (List Nat × Nat × List Nat) → Bool
  | [] => last.all (fun i => !cs.contains i && decide (i < n))
  | (pre, c, lt) :: r => pre.all (fun i => !cs.contains i && decide (i < n)) && (cs.contains c && (decide (c < n) && (lt.all (fun i => decide (i < n)) && (late.all (fun j => lt.contains j || ((flat2 r last).contains j || (ms.getD c 0).testBit j)) && segs2OK ms n cs late last r))))
theorem seg2Q_runN {n0 : Nat} {cs late : List Nat} {l : List Oper} {K : St → Prop} {last : List Nat} : ∀ (segs : List (List Nat × Nat × List Nat)) (s : St),
    segs2OK (masks [] l) l.length cs late last segs = true → seg2Q P Sd n0 l K segs last s → RunN P Sd n0 l.toArray cs late K (flat2 segs last) s
  | [], s, hs, h => by
    obtain ⟨s1, h1, h2⟩ := runQ_some h
    simp only [segs2OK, List.all_eq_true, Bool.and_eq_true, Bool.not_eq_true', decide_eq_true_eq] at hs
    have := runS_runN (cs := cs) (late := late) (K := K) (rest := []) last s s1 (fun i hi => ⟨fun hm => by have := (hs i hi).1; rw [List.contains_iff_mem.2 hm] at this; simp at this, (hs i hi).2⟩) h1 (by unfold RunN; exact h2)
    simpa [flat2] using this
  | (pre, c, lt) :: r, s, hs, h => by
    obtain ⟨s1, h1, h2⟩ := runQ_some h
    simp only [segs2OK, List.all_eq_true, Bool.and_eq_true, Bool.not_eq_true', decide_eq_true_eq, Bool.or_eq_true, List.contains_iff_mem] at hs
    obtain ⟨q1, q2, q3, q4, q5, q6⟩ := hs
    refine runS_runN pre s s1 (fun i hi => ⟨fun hm => by have := (q1 i hi).1; rw [List.contains_iff_mem.2 hm] at this; simp at this, (q1 i hi).2⟩) h1 ?_
    unfold RunN
    rw [if_pos q2]
    refine ⟨l.getD c default, by simp [q3], ?_⟩
    unfold cqQ at h2
    unfold CQ
    cases hw : wantedA l.toArray s1.t (l.getD c default) with
    | none => rw [hw] at h2; exact h2.elim
    | some b =>
      rw [hw] at h2
      have fin : ∀ v L', cqC P Sd n0 l.toArray (opsAt l lt) (l.getD c default) (seg2Q P Sd n0 l K r last) s1.t s1.L v L' → s1.L.length ≤ L'.length ∧ (∀ j ∈ late, j ∉ flat2 r last → dpB l.toArray c j = false → stepD P Sd n0 l.toArray j ⟨s1.t, L'⟩ = some ⟨s1.t, L'⟩) ∧ RunN P Sd n0 l.toArray cs late K (flat2 r last) ⟨AV.put s1.t (l.getD c default).dst v, L'⟩ := by
        rintro v L' ⟨k1, k2, k3⟩
        refine ⟨k1, fun j hj hjr hjd => stabQ_all q4 k2 j ((q5 j hj).resolve_right fun h => ?_), seg2Q_runN r _ q6 k3⟩
        rcases h with h | h
        · exact hjr h
        · have e : dpB l.toArray c j = ((masks [] l).getD c 0).testBit j := rfl
          rw [e, h] at hjd
          cases hjd
      cases b with
      | true => exact opQ_mono (InlK.mono fin) fin h2
      | false => exact fin _ _ h2
theorem DrawT.segs2 (segs : List (List Nat × Nat × List Nat)) (last late : List Nat) {n0 : Nat} {l : List Oper} {K : St → Prop} {s : St}
    (hok : (anyOK l.toArray (segs.map (·.2.1)) late (flat2 segs last) && segs2OK (masks [] l) l.length (segs.map (·.2.1)) late last segs) = true)
    (h : seg2Q P Sd n0 l K segs last s) : DrawT P Sd n0 K s l.toArray := by
  simp only [Bool.and_eq_true] at hok
  exact .any _ late (flat2 segs last) hok.1 (seg2Q_runN segs s hok.2 h)
theorem DrawQ.any2 (segs : List (List Nat × Nat × List Nat)) (last late : List Nat) {n0 : Nat} {l : List Oper} {K : St → Prop} {s : St}
    (hok : (anyOK l.toArray (segs.map (·.2.1)) late (flat2 segs last) && segs2OK (masks [] l) l.length (segs.map (·.2.1)) late last segs) = true)
    (h : seg2Q P Sd n0 l K segs last s) : DrawQ P Sd n0 l.toArray K s :=
  .inr (DrawT.segs2 segs last late hok h)

theorem DrawT.pnd (a0 : Nat) (t : TypeId) (segs : List (List Nat × Nat × List Nat)) (last late : List Nat) {n0 : Nat} {l : List Oper} {K : St → Prop} {s : St} {z : AV} (hz : tzero P t = some z)
    (hok : (anyOKP l.toArray (segs.map (·.2.1)) late (flat2 segs last) a0 && (segs2OK (masks [] l) l.length (segs.map (·.2.1)) late last segs && (match (l.toArray.getD a0 default).op with | .alloc u => u == t | _ => false))) = true)
    (h : seg2Q P Sd n0 l K segs last s) : DrawT P Sd n0 K s l.toArray := by
  simp only [Bool.and_eq_true] at hok
  obtain ⟨h1, h2, h3⟩ := hok
  have h1' := h1
  unfold anyOKP at h1'
  simp only [Bool.and_eq_true] at h1'
  have hn := h1'.2.2.2.2.2.2.2.1
  unfold isNew at hn
  simp only [Bool.and_eq_true] at hn
  obtain ⟨d, hd⟩ := Option.isSome_iff_exists.1 hn.2.2
  have hop : (l.toArray.getD a0 default).op = .alloc t := by
    split at h3
    · rename_i u hu
      rw [hu]
      have : u = t := by simpa using h3
      rw [this]
    · simp at h3
  obtain ⟨D, hD⟩ := mk_alloc hop (by simpa using hn.2.1) hd hz
  exact .pend ⟨⟨_, late, flat2 segs last, a0, d, D, h1, hD, seg2Q_runN segs s h2 h⟩⟩
theorem DrawQ.pend (a0 : Nat) (t : TypeId) (segs : List (List Nat × Nat × List Nat)) (last late : List Nat) {n0 : Nat} {l : List Oper} {K : St → Prop} {s : St} {z : AV} (hz : tzero P t = some z)
    (hok : (anyOKP l.toArray (segs.map (·.2.1)) late (flat2 segs last) a0 && (segs2OK (masks [] l) l.length (segs.map (·.2.1)) late last segs && (match (l.toArray.getD a0 default).op with | .alloc u => u == t | _ => false))) = true)
    (h : seg2Q P Sd n0 l K segs last s) : DrawQ P Sd n0 l.toArray K s :=
  .inr (DrawT.pnd a0 t segs last late hz hok h)
theorem DrawT.pndS (a0 : Nat) (t e : TypeId) (sz : Nat) (segs : List (List Nat × Nat × List Nat)) (last late : List Nat) {n0 : Nat} {l : List Oper} {K : St → Prop} {s : St} {z : AV}
    (ht : P.underlying t = some (.slice e)) (hs : tsize P e = some sz) (hz : tzero P e = some z) (hzs : z.cells.length = sz) (h0 : 0 < sz)
    (hok : (anyOKP l.toArray (segs.map (·.2.1)) late (flat2 segs last) a0 && (segs2OK (masks [] l) l.length (segs.map (·.2.1)) late last segs && (match (l.toArray.getD a0 default).op with | .buildSlice u _ _ => u == t | _ => false))) = true)
    (h : seg2Q P Sd n0 l K segs last s) : DrawT P Sd n0 K s l.toArray := by
  simp only [Bool.and_eq_true] at hok
  obtain ⟨h1, h2, h3⟩ := hok
  have h1' := h1
  unfold anyOKP at h1'
  simp only [Bool.and_eq_true] at h1'
  have hn := h1'.2.2.2.2.2.2.2.1
  unfold isNew at hn
  simp only [Bool.and_eq_true] at hn
  obtain ⟨d, hd⟩ := Option.isSome_iff_exists.1 hn.2.2
  have hop : ∃ parts : Array (Nat × Operand), (l.toArray.getD a0 default).op = .buildSlice t 0 parts ∧ parts.size = 0 := by
    have hn1 := hn.1
    split at hn1
    · rename_i u hu
      rw [hu] at h3
      simp at h3
    · rename_i u parts hu
      rw [hu] at h3
      have : u = t := by simpa using h3
      subst this
      exact ⟨parts, hu, by simpa using hn1⟩
    · simp at hn1
  obtain ⟨parts, hop, hp⟩ := hop
  obtain ⟨D, hD⟩ := mk_slice hop hp (by simpa using hn.2.1) hd ht hs hz hzs h0
  exact .pend ⟨⟨_, late, flat2 segs last, a0, d, D, h1, hD, seg2Q_runN segs s h2 h⟩⟩
theorem DrawQ.pendS (a0 : Nat) (t e : TypeId) (sz : Nat) (segs : List (List Nat × Nat × List Nat)) (last late : List Nat) {n0 : Nat} {l : List Oper} {K : St → Prop} {s : St} {z : AV}
    (ht : P.underlying t = some (.slice e)) (hs : tsize P e = some sz) (hz : tzero P e = some z) (hzs : z.cells.length = sz) (h0 : 0 < sz)
    (hok : (anyOKP l.toArray (segs.map (·.2.1)) late (flat2 segs last) a0 && (segs2OK (masks [] l) l.length (segs.map (·.2.1)) late last segs && (match (l.toArray.getD a0 default).op with | .buildSlice u _ _ => u == t | _ => false))) = true)
    (h : seg2Q P Sd n0 l K segs last s) : DrawQ P Sd n0 l.toArray K s :=
  .inr (DrawT.pndS a0 t e sz segs last late ht hs hz hzs h0 hok h)

theorem opsAt_app (l : List Oper) : ∀ a b : List Nat, opsAt l (a ++ b) = opsAt l a ++ opsAt l b
  | [], b => rfl
  | x :: a, b => by rw [List.cons_append, opsAt, opsAt, opsAt_app l a b, List.cons_append]
theorem opsAt_take (l : List Oper) : ∀ n, n ≤ l.length → opsAt l (List.range n) = l.take n
  | 0, _ => by simp [opsAt]
  | n + 1, h => by
    rw [List.range_succ, opsAt_app, opsAt_take l n (by omega), List.take_succ_eq_append_getElem (by omega)]
    simp [opsAt, show n < l.length by omega]
theorem DrawT.natT {n0 : Nat} {l : List Oper} {K : St → Prop} {s : St} (h : (anyOK l.toArray [] [] (List.range l.length)) = true) (k : runQ P Sd n0 l.toArray l K s) : DrawT P Sd n0 K s l.toArray := by
  refine .any [] [] (List.range l.length) h ?_
  have := segQ_runN (P := P) (Sd := Sd) (n0 := n0) (cs := []) (late := []) (l := l) (K := K) (last := List.range l.length) (by simp) (fun i hi => by simpa using hi) [] s (by simp)
    (by unfold segQ; rw [opsAt_take l l.length (Nat.le_refl _), List.take_length]; exact k)
  simpa [flatS] using this
theorem DrawQ.nat {n0 : Nat} {l : List Oper} {K : St → Prop} {s : St} (h : (anyOK l.toArray [] [] (List.range l.length)) = true) (k : runQ P Sd n0 l.toArray l K s) : DrawQ P Sd n0 l.toArray K s :=
  .inr (DrawT.natT h k)
theorem DrawQ.parts (i j : Nat) {n0 : Nat} {l : List Oper} {K : St → Prop} {s : St} (hok : splitOK l i j = true)
    (h1 : DrawT P Sd n0 K s (addL l i j).toArray) (h2 : DrawT P Sd n0 K s (addL l j i).toArray) : DrawQ P Sd n0 l.toArray K s := .inr (.parts i j hok h1 h2)
attribute [go_sem] addL_0 addL_s
abbrev kN := @DrawQ.nat
theorem opsAt_nil {l : List Oper} : opsAt l [] = [] := rfl
theorem opsAt_cons {l : List Oper} {i : Nat} {r : List Nat} : opsAt l (i :: r) = l.getD i default :: opsAt l r := rfl
attribute [go_sem] opsAt_nil opsAt_cons stabQ_nil stabQ_cons segQ_nil segQ_cons seg2Q_nil seg2Q_cons cqQ_eq cqK_t cqK_f cqC_eq


abbrev bytesA (tag : Nat) (bs : List UInt8) : AV := .ds tag (bs.map fun b => .int .u8 b.toNat)
abbrev rdB (bs : List UInt8) (p : Int) : Blk := ⟨2, [.agg [bytesA 0 bs, .int .i64 p]]⟩
structure RC (bs : List UInt8) (b n : Nat) (rL : Int → List Blk) : Prop where
  len : ∀ p, (rL p).length = n
  blt : b < n
  get : ∀ p, (rL p)[b]? = some (rdB bs p)
  set : ∀ p q, (rL p).set b (rdB bs q) = rL q

variable {bs : List UInt8} {b n : Nat} {rL : Int → List Blk}
theorem RC.app (h : RC bs b n rL) (X : List Blk) : RC bs b (n + X.length) (fun p => rL p ++ X) :=
  ⟨fun p => by simp [h.len], by have := h.blt; omega, fun p => by rw [List.getElem?_append_left (by rw [h.len]; exact h.blt), h.get], fun p q => by rw [List.set_append_left _ _ (by rw [h.len]; exact h.blt), h.set]⟩
theorem RC.get' (h : RC bs b n rL) (p : Int) (X : List Blk) : (rL p ++ X)[b]? = some (rdB bs p) := (h.app X).get p
theorem RC.len' (h : RC bs b n rL) (p : Int) (X : List Blk) : (rL p ++ X).length = n + X.length := by rw [List.length_append, h.len]
theorem bytes_refs (q : Nat → Prop) (tag : Nat) (bs : List UInt8) : Refs q (bytesA tag bs) := by
  refine .ds _ _ fun k m hk hm => ?_
  rw [List.length_map] at hk
  have e : (bs.map fun b => AV.int .u8 b.toNat).getD k .any = .int .u8 (bs[k].toNat) := by simp [hk]
  rw [e] at hm ⊢
  have : m = 0 := by simp [AV.cells] at hm; omega
  subst this
  exact .int _ _
theorem rdB_closed (bs : List UInt8) (p : Int) : ClosedB (rdB bs p) := by
  intro i j hi hj
  have : i = 0 := by simp at hi; omega
  subst this
  have h2 : j = 0 ∨ j = 1 := by
    have : j < 2 := hj
    omega
  rcases h2 with rfl | rfl
  · exact bytes_refs _ _ _
  · exact .int _ _
theorem RC.ret (h : RC bs b n rL) {p p' : Int} {K : AV → List Blk → Prop} {rv : AV} {X : List Blk} (sel : List Nat) (h1 : sel.Nodup) (h2 : ∀ i ∈ sel, n ≤ i ∧ i < n + X.length)
    (hK : K (selV (gR n sel) (rL p' ++ X) rv) (rL p' ++ sel.map fun i => selB (gR n sel) (rL p' ++ X) ((rL p' ++ X).getD i ⟨0, []⟩))) : RetQ (rL p) K rv (rL p' ++ X) := by
  refine ⟨sel, h1, fun i hi => by rw [h.len, h.len']; exact h2 i hi, by rw [h.len, h.len']; omega, fun i hi => ?_, ?_⟩
  · rw [h.len] at hi
    by_cases hib : i = b
    · subst hib; exact .inr ⟨_, h.get' p' X, rdB_closed bs p'⟩
    · left
      rw [List.getElem?_append_left (by rw [h.len]; exact hi), ← h.set p p', List.getElem?_set_ne (fun e => hib e.symm)]
  · rw [h.len, List.take_left' (h.len p')]
    exact hK
theorem RC.new (bs : List UInt8) (L : List Blk) : RC bs L.length (L.length + 1) (fun p => L ++ [rdB bs p]) :=
  ⟨fun p => by simp, by omega, fun p => by simp, fun p q => by simp⟩
theorem RetQ.same {L : List Blk} {K : AV → List Blk → Prop} {rv : AV} (hK : K (selV (gR L.length []) L rv) L) : RetQ L K rv L :=
  ⟨[], by simp, by simp, by simp, fun i hi => .inl rfl, by simpa using hK⟩
theorem gR_ge {n : Nat} {i : Nat} : gR n [] (n + i) = none := by simp [gR]
theorem gR_n {n : Nat} : gR n [] n = none := by simp [gR]
theorem selC_d {g : Nat → Option Nat} {L : List Blk} {tag : Nat} {l : List Int} : selC g L (ints tag l) = ints tag l := by
  simp [selC, selStep, expE, Function.comp_def, ints]
theorem selC_nil {g : Nat → Option Nat} {L : List Blk} : selC g L .nilS = .nilS := rfl
theorem selC_int {g : Nat → Option Nat} {L : List Blk} {k : IntKind} {n : Int} : selC g L (.int k n) = .int k n := rfl
theorem selC_bool {g : Nat → Option Nat} {L : List Blk} {n : Bool} : selC g L (.bool n) = .bool n := rfl
theorem selV_sl {g : Nat → Option Nat} {L : List Blk} {b v o m c : Nat} : selV g L (.sl b v o m c) = selC g L (.sl b v o m c) := rfl
theorem selV_int {g : Nat → Option Nat} {L : List Blk} {k : IntKind} {n : Int} : selV g L (.int k n) = .int k n := rfl
theorem selV_agg {g : Nat → Option Nat} {L : List Blk} {l : List AV} : selV g L (.agg l) = .agg (l.map (selC g L)) := rfl
theorem selV_tup {g : Nat → Option Nat} {L : List Blk} {l : List AV} : selV g L (.tup l) = .tup (l.map (expE (selC g L))) := rfl
theorem selE_agg {g : Nat → Option Nat} {L : List Blk} {l : List AV} : expE (selC g L) (.agg l) = .agg (l.map (selC g L)) := rfl

end Go.Ev
namespace Go.Ev
open Go Go.RowKit
variable [Gl] [Lit]

variable {P : Program}


def selS (n : Nat) (sel : List Nat) (s : St) : St :=
  ⟨s.t.map (selV (gR n sel) s.L), (s.L.take n ++ sel.map fun b => s.L.getD b ⟨0, []⟩).map (selB (gR n sel) s.L)⟩
structure SelOK (n : Nat) (sel : List Nat) (L : List Blk) : Prop where
  le : n ≤ L.length
  nd : sel.Nodup
  rng : ∀ b ∈ sel, n ≤ b ∧ b < L.length
def selW (n : Nat) (sel : List Nat) (V : Vw) : Vw :=
  ⟨V.B, V.I, fun x => V.J x ∨ ∃ (b : Nat) (e : Nat × Nat × Nat), gR n sel b = none ∧ V.m[b]? = some e ∧ e.1 = x, V.m.take n ++ sel.map fun b => V.m.getD b (0, 0, 0)⟩

theorem gR_at {n : Nat} {sel : List Nat} {b b' : Nat} (h : gR n sel b = some b') : (b < n ∧ b' = b) ∨ (n ≤ b ∧ ∃ i : Nat, sel[i]? = some b ∧ b' = n + i) := by
  unfold gR at h
  split at h
  · rename_i hb; left; exact ⟨hb, by simpa using h.symm⟩
  · rename_i hb
    simp only [Option.map_eq_some_iff] at h
    obtain ⟨i, hi, rfl⟩ := h
    right; exact ⟨by omega, i, idxOf?_some hi, rfl⟩
theorem gR_sel {n : Nat} {sel : List Nat} (hn : sel.Nodup) {i b : Nat} (hi : sel[i]? = some b) (hb : n ≤ b) : gR n sel b = some (n + i) := by
  unfold gR
  rw [if_neg (by omega)]
  have hmem := List.mem_of_getElem? hi
  cases hx : sel.idxOf? b with
  | none => exact absurd hmem (by simpa using hx)
  | some j =>
    have hj := idxOf?_some hx
    have : i = j := (List.getElem?_inj (List.getElem?_eq_some_iff.1 hi).1 hn).1 (hi.trans hj.symm)
    rw [this]; rfl

section
variable {V : Vw} {L : List Blk} {w : World} {n : Nat} {sel : List Nat}
theorem selL_at (hs : SelOK n sel L) {g : Blk → Blk} {b b' : Nat} (h : gR n sel b = some b') : ((L.take n ++ sel.map fun b => L.getD b ⟨0, []⟩).map g)[b']? = (L[b]?).map g := by
  rw [List.getElem?_map]
  congr 1
  rcases gR_at h with ⟨h1, rfl⟩ | ⟨h1, i, hi, rfl⟩
  · rw [List.getElem?_append_left (by rw [List.length_take]; have := hs.le; omega), List.getElem?_take, if_pos h1]
  · have hb := hs.rng b (List.mem_of_getElem? hi)
    have hl : (L.take n).length = n := by rw [List.length_take]; exact Nat.min_eq_left hs.le
    rw [List.getElem?_append_right (by omega), hl, Nat.add_sub_cancel_left, List.getElem?_map, hi]
    simp [hb.2]
theorem selM_at (hs : SelOK n sel L) (hm : V.m.length = L.length) {b b' : Nat} (h : gR n sel b = some b') : (selW n sel V).m[b']? = V.m[b]? := by
  show (V.m.take n ++ sel.map fun b => V.m.getD b (0, 0, 0))[b']? = _
  have hle := hs.le
  rcases gR_at h with ⟨h1, rfl⟩ | ⟨h1, i, hi, rfl⟩
  · rw [List.getElem?_append_left (by rw [List.length_take]; omega), List.getElem?_take, if_pos h1]
  · have hb := hs.rng b (List.mem_of_getElem? hi)
    have hl : (V.m.take n).length = n := by rw [List.length_take]; omega
    rw [List.getElem?_append_right (by omega), hl, Nat.add_sub_cancel_left, List.getElem?_map, hi]
    have : b < V.m.length := by omega
    simp [this]
theorem sel_src (hs : SelOK n sel L) {b' : Nat} (h : b' < n + sel.length) : ∃ b, gR n sel b = some b' ∧ b < L.length := by
  by_cases hb : b' < n
  · exact ⟨b', by unfold gR; rw [if_pos hb], by have := hs.le; omega⟩
  · have hi : b' - n < sel.length := by omega
    have hg : sel[b' - n]? = some sel[b' - n] := List.getElem?_eq_getElem hi
    have hm := hs.rng _ (List.getElem_mem hi)
    refine ⟨sel[b' - n], ?_, hm.2⟩
    rw [gR_sel hs.nd hg hm.1]
    congr 1; omega
theorem sel_rf (hs : SelOK n sel L) (hm : V.m.length = L.length) {g : Blk → Blk} (hg : ∀ k, (g k).l.length = k.l.length ∧ (g k).esz = k.esz) {b b' : Nat} (h : gR n sel b = some b') :
    rfOf (selW n sel V).m ((L.take n ++ sel.map fun b => L.getD b ⟨0, []⟩).map g) b' = rfOf V.m L b := by
  unfold rfOf
  rw [selL_at hs h, selM_at hs hm h]
  cases L[b]? with
  | none => simp
  | some k =>
    simp only [Option.map_some]
    cases V.m[b]? with
    | none => simp
    | some x => simp [(hg k).1, (hg k).2]
theorem selB_ok (g : Nat → Option Nat) (L : List Blk) (k : Blk) : (selB g L k).l.length = k.l.length ∧ (selB g L k).esz = k.esz := by simp [selB]

theorem sel_rel (hr : Rel V L w) (hs : SelOK n sel L) : Rel (selW n sel V) ((L.take n ++ sel.map fun b => L.getD b ⟨0, []⟩).map (selB (gR n sel) L)) w := by
  have hml := hr.len
  have hrf : ∀ b b' e, gR n sel b = some b' → rfOf V.m L b = some e → rfOf (selW n sel V).m ((L.take n ++ sel.map fun b => L.getD b ⟨0, []⟩).map (selB (gR n sel) L)) b' = some e := fun b b' e h he => by
    rw [sel_rf hs hml (selB_ok _ _) h]; exact he
  have hJ : ∀ x, V.J x → (selW n sel V).J x := fun x h => .inl h
  have hJ2 : ∀ (b : Nat) (e : Nat × Nat × Nat), gR n sel b = none → V.m[b]? = some e → (selW n sel V).J e.1 := fun b e h1 h2 => .inr ⟨b, e, h1, h2, rfl⟩
  have hln : ((L.take n ++ sel.map fun b => L.getD b ⟨0, []⟩).map (selB (gR n sel) L)).length = n + sel.length := by
    have := hs.le
    simp; omega
  have hmn : (selW n sel V).m.length = n + sel.length := by
    have := hs.le
    simp [selW]; omega
  refine ⟨hmn.trans hln.symm, fun b' k x hk hx => ?_, fun b' x hx => ?_, fun b b' x x' hx hx' he => ?_, hr.Ilt, fun x hx => ?_, hr.Bsz, fun b' k x hk hx he => ?_, hr.glob⟩
  · obtain ⟨b, hb, hbl⟩ := sel_src hs (by rw [← hln]; exact (List.getElem?_eq_some_iff.1 hk).1)
    rw [selL_at hs hb, Option.map_eq_some_iff] at hk
    obtain ⟨k0, hk0, rfl⟩ := hk
    rw [selM_at hs hml hb] at hx
    obtain ⟨c, ty, a1, a2, a3, a4, a5⟩ := hr.blk b k0 x hk0 hx
    refine ⟨c, ty, a1, a2, by rw [selB_len]; exact a3, fun i hi => ?_, fun i j hi hj => ?_⟩
    · rw [selB_len] at hi
      simp only [selB]
      rw [map_getD _ _ _ hi, (selC_noAgg _ _).cells, List.length_map]
      exact a4 i hi
    · rw [selB_len] at hi
      simp only [selB] at hj ⊢
      have := a4 i hi
      rw [map_getD _ _ _ hi, (selC_noAgg _ _).cells, map_getD _ _ _ (by omega)]
      exact selC_sound hr hrf hJ hJ2 _ _ (a5 i j hi hj)
  · obtain ⟨b, hb, hbl⟩ := sel_src hs (by rw [← hmn]; exact (List.getElem?_eq_some_iff.1 hx).1)
    rw [selM_at hs hml hb] at hx
    have h1 := hr.fresh b x hx
    refine ⟨h1.1, h1.2.1, ?_⟩
    rintro (h | ⟨c, e, hc, he, hxe⟩)
    · exact h1.2.2 h
    · have := hr.inj c b e x he hx hxe
      subst this
      rw [hb] at hc; cases hc
  · obtain ⟨c, hc, hcl⟩ := sel_src hs (by rw [← hmn]; exact (List.getElem?_eq_some_iff.1 hx).1)
    obtain ⟨c', hc', hcl'⟩ := sel_src hs (by rw [← hmn]; exact (List.getElem?_eq_some_iff.1 hx').1)
    rw [selM_at hs hml hc] at hx
    rw [selM_at hs hml hc'] at hx'
    have := hr.inj c c' x x' hx hx' he
    subst this
    rw [hc] at hc'; cases hc'; rfl
  · rcases hx with hx | ⟨b, e, _, he, rfl⟩
    · exact hr.Jlt x hx
    · exact ⟨(hr.fresh b e he).1, hr.blt he⟩
  · obtain ⟨b, hb, hbl⟩ := sel_src hs (by rw [← hln]; exact (List.getElem?_eq_some_iff.1 hk).1)
    rw [selL_at hs hb, Option.map_eq_some_iff] at hk
    obtain ⟨k0, hk0, rfl⟩ := hk
    rw [selM_at hs hml hb] at hx
    exact hr.big b k0 x hk0 hx he
theorem sel_step (V : Vw) (w : World) (n : Nat) (sel : List Nat) (hr : Rel V L w) (hs : SelOK n sel L) : Step V w (selW n sel V) w := by
  refine ⟨rfl, rfl, fun _ h => .inl h, fun x _ hm => ⟨rfl, fun b' e he => ?_, fun h => h.elim id fun ⟨b, e, _, he, hx⟩ => absurd hx (hm b e he)⟩, Nat.le_refl _, rfl, rfl, rfl⟩
  have hmn : (selW n sel V).m.length = n + sel.length := by
    have := hs.le; have := hr.len
    simp [selW]; omega
  obtain ⟨b, hb, hbl⟩ := sel_src hs (by rw [← hmn]; exact (List.getElem?_eq_some_iff.1 he).1)
  rw [selM_at hs hr.len hb] at he
  exact hm b e he
end
theorem sel_relS {V : Vw} {s : St} {a : Act} {w : World} (h : RelS V s a w) {n : Nat} {sel : List Nat} (hs : SelOK n sel s.L) : RelS (selW n sel V) (selS n sel s) a w := by
  refine ⟨sel_rel h.rel hs, h.defers, by simp [selS, h.size], fun i hi => ?_⟩
  simp only [selS, List.length_map] at hi ⊢
  rw [map_getD _ _ _ hi]
  exact selV_sound h.rel (fun b b' e hb he => by rw [sel_rf hs h.rel.len (selB_ok _ _) hb]; exact he) (fun x h => .inl h) (fun b e h1 h2 => .inr ⟨b, e, h1, h2, rfl⟩) _ _ (h.tmps i hi)
theorem GOK.sel {n g : Nat} (hg : n ≤ g) : GOK n fun s s' => ∃ sel, SelOK g sel s.L ∧ s' = selS g sel s := by
  rintro s s' V a w ⟨sel, hs, rfl⟩ h
  refine ⟨selW g sel V, sel_relS h hs, fun V0 L0 w0 hl hx => ⟨hx.1.trans (sel_step V w g sel h.rel hs), fun b e he => ?_⟩⟩
  obtain ⟨e', h1, h2, h3⟩ := hx.2 b e he
  have hb := rfOf_lt he
  refine ⟨e', ?_, h2, h3⟩
  have hgb : gR g sel b = some b := by unfold gR; rw [if_pos (by omega)]
  exact (sel_rf hs h.rel.len (selB_ok _ _) hgb).trans h1

def InvS (I : Nat → St → Prop) (n g : Nat) (s : St) : Prop := ∃ m, m < n ∧ ∃ s'', (∃ sel, SelOK g sel s.L ∧ s'' = selS g sel s) ∧ I m s''
theorem LoopQ.mixS {body : (Exit → St → Prop) → St → Prop} {Q : Exit → St → Prop} {t0 : List AV} {L0 : List Blk} (g : Nat) (Inv : List AV → List Blk → Nat → St → Prop) (hg : L0.length ≤ g) (h0 : ∃ n0, Inv t0 L0 n0 ⟨t0, L0⟩)
    (h : ∀ I : Nat → St → Prop, (∀ m s, Inv t0 L0 m s → I m s) → ∀ n s, Inv t0 L0 n s → body (thenA (InvS I n g) Q) s) : LoopQ body Q ⟨t0, L0⟩ :=
  ⟨Inv t0 L0, h0.choose, _, GOK.sel hg, h0.choose_spec, h _ fun _ _ h => h⟩
theorem InvS.intro {I : Nat → St → Prop} {n g : Nat} {t : List AV} {L : List Blk} (sel : List Nat) (m : Nat) (hm : m < n) (h1 : g ≤ L.length) (h2 : sel.Nodup) (h3 : ∀ b ∈ sel, g ≤ b ∧ b < L.length)
    (h : I m ⟨t.map (selV (gR g sel) L), (L.take g ++ sel.map fun b => L.getD b ⟨0, []⟩).map (selB (gR g sel) L)⟩) : InvS I n g ⟨t, L⟩ := ⟨m, hm, _, ⟨sel, ⟨h1, h2, h3⟩, rfl⟩, h⟩

section
variable {g : Nat → Option Nat} {L : List Blk}
def selF (g : Nat → Option Nat) (L : List Blk) (ver off len : Nat) : Option Blk → AV
  | some k => if k.l.length = ver ∧ off + len ≤ ver then .ds 1 (((k.l.drop off).take len).map (expE (selStep g L (selStep g L (selStep g L fun _ => .any))))) else .any
  | none => .any
def selSl (g : Nat → Option Nat) (L : List Blk) (b ver off len cap : Nat) : Option Nat → AV
  | some b' => .sl b' ver off len cap
  | none => selF g L ver off len L[b]?
def selPt (ver i off : Nat) : Option Nat → AV
  | some b' => .ptr b' ver i off
  | none => .any
theorem selC_sl {b ver off len cap : Nat} : selC g L (.sl b ver off len cap) = selSl g L b ver off len cap (g b) := by
  simp only [selC, selStep, selSl] <;> cases g b <;> first | rfl | (simp only [selF] <;> cases L[b]? <;> rfl)
theorem selC_ptr {b ver i off : Nat} : selC g L (.ptr b ver i off) = selPt ver i off (g b) := by
  simp only [selC, selStep, selPt] <;> cases g b <;> rfl
theorem selSl_some {b b' ver off len cap : Nat} : selSl g L b ver off len cap (some b') = .sl b' ver off len cap := rfl
theorem selSl_none {b ver off len cap : Nat} : selSl g L b ver off len cap none = selF g L ver off len L[b]? := rfl
theorem selPt_some {b' ver i off : Nat} : selPt ver i off (some b') = .ptr b' ver i off := rfl
theorem selPt_none {ver i off : Nat} : selPt ver i off none = .any := rfl
theorem selF_ints {l : List Int} : selF g L l.length 0 l.length (some ⟨1, l.map fun n => .int .i64 n⟩) = .ds 1 (l.map fun n => .int .i64 n) := by
  simp [selF, expE, selStep, Function.comp_def, List.take_of_length_le]
theorem selC_any : selC g L .any = .any := rfl
theorem selC_str {s : ByteArray} : selC g L (.str s) = .str s := rfl
theorem selC_nilP : selC g L .nilP = .nilP := rfl
theorem selC_dnil {tag : Nat} : selC g L (.ds tag []) = .ds tag [] := rfl
theorem selV_any : selV g L .any = .any := rfl
theorem selV_bool {b : Bool} : selV g L (.bool b) = .bool b := rfl
theorem selV_str {s : ByteArray} : selV g L (.str s) = .str s := rfl
theorem selV_nilS : selV g L .nilS = .nilS := rfl
theorem selV_nilP : selV g L .nilP = .nilP := rfl
theorem selV_ptr {b ver i off : Nat} : selV g L (.ptr b ver i off) = selC g L (.ptr b ver i off) := rfl
theorem selV_ds {tag : Nat} {l : List AV} : selV g L (.ds tag l) = selC g L (.ds tag l) := rfl
theorem selV_fn {f : FuncId} {l : List AV} : selV g L (.fn f l) = selC g L (.fn f l) := rfl
theorem selE_sl {b ver off len cap : Nat} : expE (selC g L) (.sl b ver off len cap) = selC g L (.sl b ver off len cap) := rfl
theorem selE_ds {tag : Nat} {l : List AV} : expE (selC g L) (.ds tag l) = selC g L (.ds tag l) := rfl
theorem selE_nilS : expE (selC g L) .nilS = .nilS := rfl
theorem selE_int {k : IntKind} {n : Int} : expE (selC g L) (.int k n) = .int k n := rfl
theorem selE_bool {b : Bool} : expE (selC g L) (.bool b) = .bool b := rfl
theorem selE_str {b : ByteArray} : expE (selC g L) (.str b) = .str b := rfl
theorem selB_mk {e : Nat} {l : List AV} : selB g L ⟨e, l⟩ = ⟨e, l.map (expE (selC g L))⟩ := rfl
theorem selM_ints {l : List Int} : (l.map fun n => AV.int .i64 n).map (expE (selC g L)) = l.map fun n => .int .i64 n := by
  rw [List.map_map]; rfl
theorem gR_0 {n b : Nat} (h : b < n) {sel : List Nat} : gR n sel b = some b := if_pos h
end
attribute [go_sem] selC_sl selC_ptr selSl_some selSl_none selPt_some selPt_none selF_ints selC_any selC_str selC_nilP selC_dnil selV_any selV_bool selV_str selV_nilS selV_nilP selV_ptr selV_ds selV_fn selE_sl selE_ds selE_nilS selE_int selE_bool selE_str selB_mk selM_ints
  List.map_cons List.map_nil List.take_succ_cons List.take_zero List.cons_append List.nil_append List.getD_cons_succ List.getD_cons_zero List.getElem?_cons_succ List.getElem?_cons_zero
  selC_d selC_nil selC_int selC_bool selV_sl selV_int selV_agg selV_tup selE_agg gR_ge gR_n

theorem OSpec.ofR {f : FuncId} {fn : Func} {c : Code} (hf : P.funcs[f]? = some fn) (hb : fn.body = some c) {args : List AV} {r : Nat → AV} {N : Nat → List Blk}
    (h : AW P c (DoneQ P fn (RetQ [] fun v L' => (∀ n, ownV n v = r n) ∧ ∀ n, L'.map (ownB n) = N n)) ⟨args ++ List.replicate (fn.ntmps - args.length) .any, []⟩) : OSpec P f args r N := by
  intro L xs hxs
  refine ((ISpec.ret hf hb h).frame hxs).mono ?_
  rintro r' L' ⟨v0, N0, ⟨h1, h2⟩, rfl, rfl⟩
  exact ⟨h1 _, by rw [h2]⟩
end Go.Ev
namespace Go.Ev
open Go Go.RowKit
variable [Gl] [Lit]

variable {P : Program}

section
variable {I J : Nat → Prop} {rf : Nat → Option E} {w : World}
end
end Go.Ev
namespace Go.Ev
open Go Go.RowKit
variable [Gl] [Lit]

variable {P : Program}

def plainV : AV → Option Value
  | .int k n => some (.int k n)
  | .str s => some (.string s)
  | .bool b => some (.bool b)
  | _ => none
theorem plain_inv {I J : Nat → Prop} {rf : Nat → Option E} {w : World} {x : AV} {v u : Value} (h : R I J rf w x v) (hx : plainV x = some u) : v = u := by
  cases x with
  | int k n => cases hx; exact h.int_inv
  | str s => cases hx; exact h.str_inv
  | bool b => cases hx; exact h.bool_inv
  | _ => cases hx
theorem CSpec.plain {f : FuncId} {args : List AV} {us : List Value} {r : AV} (hp : args.map plainV = us.map some)
    (H : ∀ (I : Nat → Prop) (w : World), (∀ x, I x → x < w.heap.size) → GOKw I w → Calls P f us.toArray w (fun e w' => ∃ v, ∃ J' : Nat → Prop, e = .returned v ∧ Below w.heap.size w w' ∧ (∀ x, J' x → w.heap.size ≤ x ∧ x < w'.heap.size) ∧ R (fun _ => False) J' (fun _ => none) w' r v)) :
    CSpec P f args r := by
  intro I w vs hl hx hI hG
  have hlen : args.length = us.length := by simpa using congrArg List.length hp
  have : vs = us.toArray := by
    apply Array.ext
    · simp [hl, hlen]
    · intro i h1 h2
      have hi : i < args.length := by omega
      have hiu : i < us.length := by omega
      have h := hx i hi
      have e := congrArg (fun l => l[i]?) hp
      simp only [List.getElem?_map, List.getElem?_eq_getElem hi, List.getElem?_eq_getElem hiu, Option.map_some, Option.some.injEq] at e
      have h' : R I (fun _ => False) (fun _ => none) w args[i] vs[i] := by simpa [hi, h1] using h
      have := plain_inv h' e
      simpa using this
  subst this
  exact H I w hI hG

end Go.Ev
namespace Go.Ev
open Go Go.RowKit Go.Ev.Enc Go.WideShapes Go.ChangeShapes
variable [Gl] [Lit]

variable {P : Program}

def VarRd (P : Program) (n : String) : Prop := ∃ g t, P.globalNamed n = some g ∧ (P.globals[g]?).map (·.type) = some t ∧ P.readableRec t = true ∧ t < P.types.size
theorem trodVars_stays (hl : laidOutB P = true) {H : Type} {enc : TypeId × Value → H} {W W' : World} (hb : Below W.heap.size W W') :
    ∀ {ns : List String} {ds : List (DataW H)} {ps : List MemPlace}, (∀ n ∈ ns, VarRd P n) → (∀ p ∈ ps, p.block < W.heap.size) →
      DataW.TrodVars enc P W (fun _ => true) ns ds ps → DataW.TrodVars enc P W' (fun b => decide (b < W.heap.size)) ns ds ps
  | [], [], _, _, _, h => h
  | [], _ :: _, _, _, _, h => h.elim
  | _ :: _, [], _, _, _, h => h.elim
  | n :: ns, d :: ds, ps, hr, hlt, h => by
    obtain ⟨g, t, cs, fuel, p, q, h1, h2, h3, h4, h5, rfl⟩ := h
    obtain ⟨g', t', e1, e2, ht⟩ := hr n (by simp)
    obtain rfl : g = g' := Option.some.inj (h1.symm.trans e1)
    obtain rfl : t = t' := Option.some.inj (h2.symm.trans e2)
    have hp : ∀ x ∈ p, x.block < W.heap.size := fun x hx => hlt x (by simp [hx])
    have hg : g < W.heap.size := by
      simp only [World.var?, h1, Option.bind_some] at h3
      by_cases hlt : g < W.heap.size
      · exact hlt
      · rw [Array.getElem?_eq_none (by omega)] at h3
        simp at h3
    refine ⟨g, t, cs, fuel, p, q, h1, h2, ?_, DataW.trod_stays (kids_book hl ht.1) (book_sized ht.1) (fun h => by cases h) ⟨ht.2, book_self t⟩ h4 (fun x hx => hb.same (hp x hx)) (fun x hx => by simpa using hp x hx), trodVars_stays hl hb (fun m hm => hr m (by simp [hm])) (fun x hx => hlt x (by simp [hx])) h5, rfl⟩
    rw [← h3]
    simp only [World.var?, h1, Option.bind_some, hb.block g hg]

theorem law_postV (hl : laidOutB P = true) {H : Type} {enc : TypeId × Value → H} {fn : Func} {s : ChangeSpec} {tb : TypeId} (hr : ∀ t ∈ fn.params.toList, P.readableRec t = true ∧ t < P.types.size)
    (hvars : ∀ n ∈ s.vars, VarRd P n) (hres : fn.resultTypes = #[tb]) (htb : P.underlying tb = some .bool) {W W' : World} {args : Array Value} {ds gs : List (DataW H)} {before : List MemPlace}
    (hW : DataW.Whole enc P fn.params.toList s.vars false W args.toList ds gs before) (h1 : (s.fn H (ds ++ gs)).results = [.lit (.bool true)]) (h2 : (s.fn H (ds ++ gs)).args = ds) (h3 : (s.fn H (ds ++ gs)).vars = gs)
    (hb : Below W.heap.size W W') : s.post enc P fn false true false false W args (.bool true) W' := by
  have hlt : ∀ p ∈ before, p.block < W.heap.size := fun p hp => hW.lt p hp
  have hW' := hW
  obtain ⟨p, q, hA, hV, rfl, _, _⟩ := hW
  refine ⟨ds, gs, p ++ q, [], p, q, hW', ?_, ?_, ?_, hb.frame _, fun h => by cases h⟩
  · rw [hres, h1]
    exact ⟨[], [], ⟨1, by simp [DataW.trod, htb, Value.cells]⟩, rfl, rfl⟩
  · rw [h2]
    exact trodAll_stays hl hb hr (fun x hx => hlt x (by simp [hx])) hA
  · rw [h3]
    exact trodVars_stays hl hb hvars (fun x hx => hlt x (by simp [hx])) hV
theorem var_lt {W : World} {n : String} {g : Nat} {cs : Array Value} (hg : P.globalNamed n = some g) (h : W.var? P n = some cs) : g < W.heap.size := by
  simp only [World.var?, hg, Option.bind_some] at h
  by_cases hlt : g < W.heap.size
  · exact hlt
  · rw [Array.getElem?_eq_none (by omega)] at h
    simp at h
theorem varOK_tab {W : World} {name : String} {k : IntKind} {zs : List Int} {g : Nat} {t e : TypeId} {n : Nat}
    (hg : P.globalNamed name = some g) (hty : (P.globals[g]?).map (·.type) = some t) (ht : P.underlying t = some (.array n e)) (he : P.underlying e = some (.int k)) (hce : P.cellsOf e = 1) (hct : P.cellsOf t = n)
    (h : Lib.VarReads P W name (Lib.tabData k zs)) : VarOK P (fun b => b < W.heap.size) W name (fun cs => cs = (zs.map fun z => Value.int k z).toArray) := by
  obtain ⟨g', t', cs, fuel, p, hg', ht', hvar, hd⟩ := h
  obtain rfl := Option.some.inj (hg.symm.trans hg')
  obtain rfl := Option.some.inj (hty.symm.trans ht')
  exact ⟨g, cs, hg, var_lt hg hvar, hvar, by rw [← Lib.cells_of_tab ht he hce hct hd]⟩
end Go.Ev
