/- Contracts of functions that the laws of this seat call. -/
import Derived.Test.YtfjhhbpipococaaHb
import Derived.Test.YtfjhhbpipococaaHc
set_option linter.all false
namespace Go.Proofs.Ytfjhhbpipococaa
open Go Go.Ev Go.RowKit Go.Ev.Enc Go.Pl

theorem zip_mem {l : List Tsr} {b : List (List Int)} (hb : b.length = l.length) {x : Tsr × List Int} : x ∈ l.zip b ↔ ∃ k, k < l.length ∧ x = (l.getD k ⟨[], []⟩, b.getD k []) := by
  rw [List.mem_iff_getElem]
  constructor
  · rintro ⟨k, hk, rfl⟩
    rw [List.length_zip] at hk
    have h1 : k < l.length := by omega
    have h2 : k < b.length := by omega
    exact ⟨k, h1, by simp [h1, h2]⟩
  · rintro ⟨k, hk, rfl⟩
    have h2 : k < b.length := by omega
    exact ⟨k, by rw [List.length_zip]; omega, by simp [hk, h2]⟩
theorem pair_mem {r sh : List Int} (h : r.length = sh.length) {p : Int × Int} : p ∈ r.zip sh ↔ ∃ d, d < r.length ∧ p = (r.getD d 0, sh.getD d 0) := by
  rw [List.mem_iff_getElem]
  constructor
  · rintro ⟨k, hk, rfl⟩
    rw [List.length_zip] at hk
    have h1 : k < r.length := by omega
    have h2 : k < sh.length := by omega
    exact ⟨k, h1, by simp [h1, h2]⟩
  · rintro ⟨k, hk, rfl⟩
    have h2 : k < sh.length := by omega
    exact ⟨k, by rw [List.length_zip]; omega, by simp [hk, h2]⟩
theorem ext_perm {l l' : List Tsr} {b b' : List (List Int)} {e : List Int} (hE : extF l b = some e) (hl : l'.length = l.length) (hb : b'.length = l'.length) (h1 : ∀ x, x ∈ l'.zip b' → x ∈ l.zip b) (h2 : ∀ x, x ∈ l.zip b → x ∈ l'.zip b') : extF l' b' = some e := by
  have hx := extOK_of hE
  have hbl := hx.bl
  have hrow : ∀ x ∈ l.zip b, tsrOK x.1 = true ∧ x.2.length = x.1.sh.length ∧ labOK x.2 = true ∧ ∀ p ∈ x.2.zip x.1.sh, 0 ≤ p.1 ∧ p.1 < 5 ∧ e.getD p.1.toNat 0 = p.2 := by
    intro x hxm
    obtain ⟨k, hk, rfl⟩ := (zip_mem hbl).1 hxm
    have hkb : k < b.length := by omega
    refine ⟨hx.tsr k hk, hx.row k hkb, hx.lab k hkb, fun p hp => ?_⟩
    obtain ⟨d, hd, rfl⟩ := (pair_mem (hx.row k hkb)).1 hp
    have := labOK_at (hx.lab k hkb) hd
    exact ⟨by simp only; omega, by simp only; omega, hx.ext k hkb d hd⟩
  obtain ⟨o', p1, p2, p3⟩ := extAll_some (fun k => e.getD k 0) (l'.zip b') [-1, -1, -1, -1, -1] rfl (fun x hxm => hrow x (h1 x hxm)) (fun k hk h0 => by
    exfalso
    match k, hk with
    | 0, _ => exact absurd h0 (by decide)
    | 1, _ => exact absurd h0 (by decide)
    | 2, _ => exact absurd h0 (by decide)
    | 3, _ => exact absurd h0 (by decide)
    | 4, _ => exact absurd h0 (by decide))
  have he : o' = e := by
    refine ints_ext (by rw [p2, hx.len]) fun k hk => ?_
    rw [p2] at hk
    by_cases hin : ∃ x ∈ l'.zip b', ∃ p ∈ x.2.zip x.1.sh, p.1.toNat = k
    · exact (p3 k hk).1 hin
    · rw [(p3 k hk).2 (fun x hx p hp h => hin ⟨x, hx, p, hp, h⟩)]
      have hun := extF_un hE hk (fun x hxf hxk => hin (by
        obtain ⟨row, hr, hxr⟩ := List.mem_flatten.1 hxf
        obtain ⟨j, hj, hje⟩ := List.mem_iff_getElem.1 hr
        obtain ⟨d, hd, hde⟩ := List.mem_iff_getElem.1 hxr
        have hjl : j < l.length := by omega
        have hrj : b.getD j [] = row := by simp [hj, hje]
        refine ⟨(l.getD j ⟨[], []⟩, b.getD j []), h2 _ ((zip_mem hbl).2 ⟨j, hjl, rfl⟩), ((b.getD j []).getD d 0, (l.getD j ⟨[], []⟩).sh.getD d 0), (pair_mem (hx.row j hj)).2 ⟨d, by rw [hrj]; exact hd, rfl⟩, ?_⟩
        simp only
        rw [hrj]
        have : row.getD d 0 = x := by simp [hd, hde]
        rw [this]; exact hxk))
      rw [hun]
      match k, hk with
      | 0, _ => rfl
      | 1, _ => rfl
      | 2, _ => rfl
      | 3, _ => rfl
      | 4, _ => rfl
  subst he
  have hl1 := hx.l1
  have hl3 := hx.l3
  unfold extF
  rw [if_pos ⟨by omega, by omega, hb⟩]
  exact p1
theorem contr_perm {l l' : List Tsr} {b b' : List (List Int)} {out : List Int} {t : Tsr} (h : (extF l b).bind (contrF l b out) = some t) (hl : l'.length = l.length) (hb : b'.length = l'.length) (h1 : ∀ x, x ∈ l'.zip b' → x ∈ l.zip b) (h2 : ∀ x, x ∈ l.zip b → x ∈ l'.zip b')
    (hf : ∀ x, x ∈ b'.flatten ↔ x ∈ b.flatten) (ht : ∀ al, IntKind.i64.wrap (termS l' b' al l'.length) = IntKind.i64.wrap (1 * termS l b al l.length)) : (extF l' b').bind (contrF l' b' out) = some t := by
  simp only [Option.bind_eq_some_iff] at h
  obtain ⟨e, hE, hc⟩ := h
  have hE' := ext_perm hE hl hb h1 h2
  rw [hE', Option.bind_some]
  have hc' : ∃ t', contrF l' b' out e = some t' := by
    unfold contrF at hc ⊢
    split at hc
    · rename_i hp; rw [if_pos hp]; exact ⟨_, rfl⟩
    · simp at hc
  obtain ⟨t', hc'⟩ := hc'
  rw [hc']
  obtain ⟨c1, c2, c3⟩ := contr_get hE hc
  obtain ⟨d1, d2, d3⟩ := contr_get hE' hc'
  have hs : srt b'.flatten = srt b.flatten := by
    rw [srt_lab (srt_in (extOK_of hE').lab), srt_lab (srt_in (extOK_of hE).lab)]
    congr 1
    funext k
    rw [Bool.eq_iff_iff, List.contains_iff_mem, List.contains_iff_mem, hf]
  have hv : t'.vl = t.vl := ints_ext (by rw [c2, d2]) fun r hr => by
    rw [d3 r hr, c3 r (by rw [c2, ← d2]; exact hr), hs, sumG_w ht, Int.one_mul]
  obtain ⟨s, v⟩ := t
  obtain ⟨s', v'⟩ := t'
  simp only at hv c1 d1
  rw [hv, d1, c1]
theorem contr_rev {l : List Tsr} {b : List (List Int)} {out : List Int} {t : Tsr} (h : (extF l b).bind (contrF l b out) = some t) : (extF l.reverse b.reverse).bind (contrF l.reverse b.reverse out) = some t := by
  have h' := h
  simp only [Option.bind_eq_some_iff] at h'
  obtain ⟨e, hE, _⟩ := h'
  have hx := extOK_of hE
  have hl1 := hx.l1
  have hl3 := hx.l3
  have hbl := hx.bl
  match l, b, hl1, hl3, hbl with
  | [x], [r], _, _, _ => exact h
  | [x, y], [r, s], _, _, _ =>
    refine contr_perm h rfl rfl (fun a ha => ?_) (fun a ha => ?_) (fun a => ?_) (fun al => ?_)
    · simp at ha ⊢; exact ha.symm
    · simp at ha ⊢; exact ha.symm
    · simp; exact Or.comm
    · simp only [List.reverse_cons, List.reverse_nil, List.nil_append, List.cons_append, List.length_cons, List.length_nil, Nat.zero_add, Nat.reduceAdd, termS, List.getD_cons_zero, List.getD_cons_succ, Int.one_mul, ww_idem, w_mul, w_mulr]
      rw [Int.mul_comm]
  | [x, y, z], [r, s, q], _, _, _ =>
    refine contr_perm h rfl rfl (fun a ha => ?_) (fun a ha => ?_) (fun a => ?_) (fun al => ?_)
    · simp at ha ⊢; rcases ha with h | h | h <;> simp [h]
    · simp at ha ⊢; rcases ha with h | h | h <;> simp [h]
    · simp; constructor <;> rintro (h | h | h) <;> simp [h]
    · simp only [List.reverse_cons, List.reverse_nil, List.nil_append, List.cons_append, List.length_cons, List.length_nil, Nat.zero_add, Nat.reduceAdd, termS, List.getD_cons_zero, List.getD_cons_succ, Int.one_mul, ww_idem, w_mul, w_mulr]
      congr 1
      rw [Int.mul_comm, Int.mul_left_comm]
      exact Int.mul_comm _ _
end Go.Proofs.Ytfjhhbpipococaa
