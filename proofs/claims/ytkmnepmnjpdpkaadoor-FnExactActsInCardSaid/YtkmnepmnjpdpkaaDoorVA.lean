/- Contracts of functions on views and memories that the laws of this seat call. -/
import Derived.Test.YtkmnepmnjpdpkaaDoorGb
set_option linter.all false
namespace Go.Proofs.YtkmnepmnjpdpkaaDoor
open Go Go.Ev Go.RowKit Go.Ev.Enc Go.Pl

structure Vi where
  b : Int
  sh : List Int
  st : List Int
  deriving DecidableEq
instance : Enc Vi where
  enc t x := .agg [.int .i64 x.b, ints t x.sh, ints t x.st]
  dec | .agg [z, x, y] => (dec z).bind fun n => (dec x).bind fun a => (dec y).map fun b => ⟨n, a, b⟩
      | _ => none
  ok x a := by
    constructor
    · intro h
      split at h
      · simp only [Option.bind_eq_some_iff, Option.map_eq_some_iff] at h
        obtain ⟨n, hn, p, hp, q, hq, rfl⟩ := h
        rw [(ok _ _).1 hn, (ok _ _).1 hp, (ok _ _).1 hq]; rfl
      · simp at h
    · rintro rfl
      show ((dec (enc 0 a.b)).bind fun n => (dec (enc 0 a.sh)).bind fun p => (dec (enc 0 a.st)).map fun q => (⟨n, p, q⟩ : Vi)) = some a
      rw [(ok _ a.b).2 rfl, (ok _ a.sh).2 rfl, (ok _ a.st).2 rfl]; rfl
  own a := .agg _ (by
    intro x hx
    simp only [List.mem_cons, List.not_mem_nil, or_false] at hx
    rcases hx with rfl | rfl | rfl
    · exact own a.b
    · exact own a.sh
    · exact own a.st)
theorem enc_vi (t : Nat) (x : Vi) : (enc t x : AV) = .agg [.int .i64 x.b, ints t x.sh, ints t x.st] := rfl
theorem enc_vis (t : Nat) (l : List Vi) : (enc t l : AV) = .ds t (l.map fun x => .agg [.int .i64 x.b, ints t x.sh, ints t x.st]) := rfl
theorem dec_vi (n : Int) (a b : List Int) : (dec (.agg [.int .i64 n, .ds 0 (a.map fun n => .int .i64 n), .ds 0 (b.map fun n => .int .i64 n)]) : Option Vi) = some ⟨n, a, b⟩ := (ok _ _).2 rfl
theorem dec_vi0 (n : Int) : (dec (.agg [.int .i64 n, .ds 0 [], .ds 0 []]) : Option Vi) = some ⟨n, [], []⟩ := (ok _ _).2 rfl
theorem dec_vis (l : List Vi) : (dec (.ds 0 (l.map fun x => .agg [.int .i64 x.b, ints 0 x.sh, ints 0 x.st])) : Option (List Vi)) = some l := (ok _ _).2 rfl
theorem ee_vis (t t' : Nat) (L : List Blk) (l : List Vi) : expE (expC t L) (.ds t' (l.map fun x => .agg [.int .i64 x.b, ints t' x.sh, ints t' x.st])) = .ds (min t' t) (l.map fun x => .agg [.int .i64 x.b, ints (min t' t) x.sh, ints (min t' t) x.st]) := by
  simp [expE, expC, stepC, Function.comp_def]
theorem getD_vis {t : Nat} {l : List Vi} {k : Nat} (h : k < l.length) : (l.map fun x => AV.agg [.int .i64 x.b, ints t x.sh, ints t x.st]).getD k .any = .agg [.int .i64 (l.getD k ⟨0, [], []⟩).b, ints t (l.getD k ⟨0, [], []⟩).sh, ints t (l.getD k ⟨0, [], []⟩).st] := by simp [h]
theorem vi_eta (x : Vi) : (⟨x.b, x.sh, x.st⟩ : Vi) = x := rfl
theorem gcV_vis (n : Nat) (L : List Blk) (t : Nat) (l : List Vi) : gcV n L (.ds t (l.map fun x => .agg [.int .i64 x.b, ints t x.sh, ints t x.st])) = .ds t (l.map fun x => .agg [.int .i64 x.b, ints t x.sh, ints t x.st]) := by
  simp [gcV, expE, gcC, gcStep, Function.comp_def]
theorem expS_vis (t t' : Nat) (L : List Blk) (e ver off len : Nat) (q : List Vi) : expS t L ver off len (some ⟨e, q.map fun x => .agg [.int .i64 x.b, ints t' x.sh, ints t' x.st]⟩) = if q.length = ver ∧ off + len ≤ ver then .ds t (((q.drop off).take len).map fun x => .agg [.int .i64 x.b, ints (min t' t) x.sh, ints (min t' t) x.st]) else .any := by
  simp [expS, expE, stepC, Function.comp_def]
attribute [go_sem] expS_vis gcV_vis enc_vi enc_vis dec_vi dec_vi0 dec_vis ee_vis vi_eta

def cnV := And.intro @evApp_z0 (And.intro @evApp_z1 (And.intro @evApp_z2 (And.intro @evApp_z3 (And.intro @getD_tsrs (And.intro @fillA_len (And.intro @fillA_at (And.intro @fillA_full (And.intro @evApp_i6 @getD_vis))))))))
def viB (v : Vi) : Prop := v.sh.length < 4294967296 ∧ v.st.length < 4294967296
instance (v : Vi) : Decidable (viB v) := by unfold viB; infer_instance
end Go.Proofs.YtkmnepmnjpdpkaaDoor
namespace Go.Proofs.YtkmnepmnjpdpkaaDoor
open Go Go.Ev Go.RowKit Go.Ev.Enc Go.Pl

theorem can_ContainsFunc : CanCall Tryd.prog 40 := ⟨_, Tryd.func40, rfl, rfl⟩
end Go.Proofs.YtkmnepmnjpdpkaaDoor
namespace Go.Proofs.YtkmnepmnjpdpkaaDoor
open Go Go.Ev Go.RowKit Go.Ev.Enc Go.Pl

end Go.Proofs.YtkmnepmnjpdpkaaDoor
namespace Go.Proofs.YtkmnepmnjpdpkaaDoor
open Go Go.Ev Go.RowKit Go.Ev.Enc Go.Pl

theorem evTwo_eq (g : Int → Int → Int) (k k' : IntKind) (a b : Int) : evTwo g [.int k a, .int k' b] = some (.int k (g a b)) := rfl
attribute [go_sem] evTwo_eq
structure Rg where
  a : Int
  z : Int
  s : Int
  deriving DecidableEq
instance : Enc Rg where
  enc t x := .agg [.int .i64 x.a, .int .i64 x.z, .int .i64 x.s]
  dec | .agg [x, y, z] => (dec x).bind fun n => (dec y).bind fun a => (dec z).map fun b => ⟨n, a, b⟩
      | _ => none
  ok x a := by
    constructor
    · intro h
      split at h
      · simp only [Option.bind_eq_some_iff, Option.map_eq_some_iff] at h
        obtain ⟨n, hn, p, hp, q, hq, rfl⟩ := h
        rw [(ok _ _).1 hn, (ok _ _).1 hp, (ok _ _).1 hq]; rfl
      · simp at h
    · rintro rfl
      show ((dec (enc 0 a.a)).bind fun n => (dec (enc 0 a.z)).bind fun p => (dec (enc 0 a.s)).map fun q => (⟨n, p, q⟩ : Rg)) = some a
      rw [(ok _ a.a).2 rfl, (ok _ a.z).2 rfl, (ok _ a.s).2 rfl]; rfl
  own a := .agg _ (by
    intro x hx
    simp only [List.mem_cons, List.not_mem_nil, or_false] at hx
    rcases hx with rfl | rfl | rfl
    · exact own a.a
    · exact own a.z
    · exact own a.s)
structure Sl where
  f : Int
  t : Int
  s : Int
  hf : Bool
  ht : Bool
  deriving DecidableEq
instance : Enc Sl where
  enc t x := .agg [.int .i64 x.f, .int .i64 x.t, .int .i64 x.s, .bool x.hf, .bool x.ht]
  dec | .agg [x, y, z, p, q] => (dec x).bind fun n => (dec y).bind fun a => (dec z).bind fun b => (dec p).bind fun c => (dec q).map fun d => ⟨n, a, b, c, d⟩
      | _ => none
  ok x a := by
    constructor
    · intro h
      split at h
      · simp only [Option.bind_eq_some_iff, Option.map_eq_some_iff] at h
        obtain ⟨n, hn, p, hp, q, hq, u, hu, v, hv, rfl⟩ := h
        rw [(ok _ _).1 hn, (ok _ _).1 hp, (ok _ _).1 hq, (ok _ _).1 hu, (ok _ _).1 hv]; rfl
      · simp at h
    · rintro rfl
      show ((dec (enc 0 a.f)).bind fun n => (dec (enc 0 a.t)).bind fun p => (dec (enc 0 a.s)).bind fun q => (dec (enc 0 a.hf)).bind fun u => (dec (enc 0 a.ht)).map fun v => (⟨n, p, q, u, v⟩ : Sl)) = some a
      rw [(ok _ a.f).2 rfl, (ok _ a.t).2 rfl, (ok _ a.s).2 rfl, (ok _ a.hf).2 rfl, (ok _ a.ht).2 rfl]; rfl
  own a := .agg _ (by
    intro x hx
    simp only [List.mem_cons, List.not_mem_nil, or_false] at hx
    rcases hx with rfl | rfl | rfl | rfl | rfl
    · exact own a.f
    · exact own a.t
    · exact own a.s
    · exact own a.hf
    · exact own a.ht)
theorem enc_rg (t : Nat) (x : Rg) : (enc t x : AV) = .agg [.int .i64 x.a, .int .i64 x.z, .int .i64 x.s] := rfl
theorem enc_sl' (t : Nat) (x : Sl) : (enc t x : AV) = .agg [.int .i64 x.f, .int .i64 x.t, .int .i64 x.s, .bool x.hf, .bool x.ht] := rfl
theorem dec_rg (a b c : Int) : (dec (.agg [.int .i64 a, .int .i64 b, .int .i64 c]) : Option Rg) = some ⟨a, b, c⟩ := (ok _ _).2 rfl
theorem dec_sl' (a b c : Int) (p q : Bool) : (dec (.agg [.int .i64 a, .int .i64 b, .int .i64 c, .bool p, .bool q]) : Option Sl) = some ⟨a, b, c, p, q⟩ := (ok _ _).2 rfl
theorem rg_eta (x : Rg) : (⟨x.a, x.z, x.s⟩ : Rg) = x := rfl
theorem sl_eta (x : Sl) : (⟨x.f, x.t, x.s, x.hf, x.ht⟩ : Sl) = x := rfl
attribute [go_sem] enc_rg enc_sl' dec_rg dec_sl' rg_eta sl_eta

def goesOn (z s x : Int) : Prop := (0 < s ∧ x < z) ∨ (s < 0 ∧ z < x)
instance (z s x : Int) : Decidable (goesOn z s x) := by unfold goesOn; infer_instance
def rgB (r : Rg) : Prop := (-1000 ≤ r.a ∧ r.a ≤ 1000) ∧ (-1000 ≤ r.z ∧ r.z ≤ 1000) ∧ (-1000 ≤ r.s ∧ r.s ≤ 1000)
instance (r : Rg) : Decidable (rgB r) := by unfold rgB; infer_instance
def slB (s : Sl) : Prop := (-500 ≤ s.f ∧ s.f ≤ 500) ∧ (-500 ≤ s.t ∧ s.t ≤ 500) ∧ (-500 ≤ s.s ∧ s.s ≤ 500)
instance (s : Sl) : Decidable (slB s) := by unfold slB; infer_instance
def smallL (m : Int) (l : List Int) : Prop := ∀ x ∈ l, -m ≤ x ∧ x ≤ m
instance (m : Int) (l : List Int) : Decidable (smallL m l) := by unfold smallL; infer_instance
end Go.Proofs.YtkmnepmnjpdpkaaDoor
namespace Go.Proofs.YtkmnepmnjpdpkaaDoor
open Go Go.Ev Go.RowKit Go.Ev.Enc Go.Pl

end Go.Proofs.YtkmnepmnjpdpkaaDoor
namespace Go.Proofs.YtkmnepmnjpdpkaaDoor
open Go Go.Ev Go.RowKit Go.Ev.Enc Go.Pl

def viM (v : Vi) : Prop := v.sh.length ≤ 1048576 ∧ v.st.length ≤ 1048576
theorem RetQ.one {L X : List Blk} {K : AV → List Blk → Prop} {rv : AV} (i : Nat) (hi : i < X.length) (hK : K (selV (gR L.length [L.length + i]) (L ++ X) rv) (L ++ [selB (gR L.length [L.length + i]) (L ++ X) (X.getD i ⟨0, []⟩)])) : RetQ L K rv (L ++ X) :=
  ⟨[L.length + i], by simp, by simp; omega, by simp, fun b hb => .inl (List.getElem?_append_left hb), by
    have e : (L ++ X).getD (L.length + i) ⟨0, []⟩ = X.getD i ⟨0, []⟩ := by
      simp only [List.getD_eq_getElem?_getD]
      rw [List.getElem?_append_right (by omega), Nat.add_sub_cancel_left]
    rw [List.map_cons, List.map_nil, e, List.take_left]
    exact hK⟩
abbrev stB (l : List Int) : Blk := ⟨1, l.map fun n => .int .i64 n⟩
end Go.Proofs.YtkmnepmnjpdpkaaDoor
namespace Go.Proofs.YtkmnepmnjpdpkaaDoor
open Go Go.Ev Go.RowKit Go.Ev.Enc Go.Pl

theorem take_snocI {o : List Int} {k : Nat} (h : k < o.length) : o.take (k + 1) = o.take k ++ [o.getD k 0] := by
  rw [List.take_succ_eq_append_getElem h]; simp [h]
end Go.Proofs.YtkmnepmnjpdpkaaDoor
namespace Go.Proofs.YtkmnepmnjpdpkaaDoor
open Go Go.Ev Go.RowKit Go.Ev.Enc Go.Pl

end Go.Proofs.YtkmnepmnjpdpkaaDoor
