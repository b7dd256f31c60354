/- Contracts of functions that the laws of this seat call. -/
import Derived.Test.YtgepbcakcjdmoaaFl
set_option linter.all false
namespace Go.Proofs.Ytgepbcakcjdmoaa
open Go Go.Ev Go.RowKit Go.Ev.Enc Go.Pl

theorem ww_idem (n : Int) : IntKind.i64.wrap (IntKind.i64.wrap n) = IntKind.i64.wrap n := by
  rw [IntKind.wrap_i64, IntKind.wrap_i64]; omega
def isW (n : Int) : Prop := IntKind.i64.wrap n = n
theorem isW_wrap (n : Int) : isW (IntKind.i64.wrap n) := ww_idem n
theorem fold_filter (e : List Int) (p : Int → Bool) (g : Int → Int) (hg : ∀ k, k ∈ labs → g k = if p k = true then e.getD k.toNat 0 else 1) :
    ∀ (l : List Int) (a : Int), (∀ k ∈ l, k ∈ labs) → isW a → (l.filter p).foldl (fun n x => IntKind.i64.wrap (n * e.getD x.toNat 0)) a = (l.map g).foldl (fun n e => IntKind.i64.wrap (n * e)) a
  | [], a, _, _ => rfl
  | k :: l, a, hl, ha => by
    have hk := hg k (hl k (by simp))
    simp only [List.filter_cons, List.map_cons, List.foldl_cons]
    by_cases hp : p k = true
    · rw [if_pos hp] at hk ⊢
      rw [List.foldl_cons, hk]
      exact fold_filter e p g hg l _ (fun k hk => hl k (by simp [hk])) (isW_wrap _)
    · rw [if_neg hp] at hk ⊢
      rw [hk, Int.mul_one, ha]
      exact fold_filter e p g hg l _ (fun k hk => hl k (by simp [hk])) ha
theorem isW_one : isW 1 := by rw [isW, IntKind.wrap_i64]; omega

/-- the costs are the same -/
theorem cost_lab {e X : List Int} (hX : ∀ x ∈ X, 0 ≤ x ∧ x < 5) (hn : ∀ x ∈ X, 0 ≤ e.getD x.toNat 0) (f : Int → Int) (hf : ∀ k ∈ labs, f k = if X.contains k = true then e.getD k.toNat 0 else -1) :
    costW e (srt X) = prodW ((labs.map f).map pos1) := by
  have h1 : srt X = labs.filter fun k => X.contains k := by
    rw [asc_labs (srt_asc X) (fun x hx => hX x ((srt_mem X x).1 hx))]
    congr 1
    funext k
    rw [Bool.eq_iff_iff, List.contains_iff_mem, List.contains_iff_mem, srt_mem]
  rw [h1, List.map_map]
  unfold costW prodW
  refine fold_filter e (fun k => X.contains k) (pos1 ∘ f) (fun k hk => ?_) labs 1 (fun _ h => h) isW_one
  simp only [Function.comp, hf k hk]
  by_cases hc : X.contains k = true
  · rw [if_pos hc, if_pos hc, pos1, if_neg]
    have := hn k (List.contains_iff_mem.1 hc)
    omega
  · rw [if_neg hc, if_neg hc]; rfl
theorem othN_iff {b : List (List Int)} {i j k : Int} : ∀ n, othN b i j k n = true ↔ ∃ m, m < n ∧ (m : Int) ≠ i ∧ (m : Int) ≠ j ∧ k ∈ b.getD m []
  | 0 => by simp [othN]
  | n + 1 => by
    rw [othN, Bool.or_eq_true, othN_iff n, Bool.and_eq_true, decide_eq_true_eq, List.contains_iff_mem]
    constructor
    · rintro (⟨m, h1, h2⟩ | ⟨⟨h1, h2⟩, h3⟩)
      · exact ⟨m, by omega, h2⟩
      · exact ⟨n, by omega, h1, h2, h3⟩
    · rintro ⟨m, h1, h2, h3, h4⟩
      rcases Nat.lt_or_ge m n with h | h
      · exact Or.inl ⟨m, h, h2, h3, h4⟩
      · have : m = n := by omega
        subst this; exact Or.inr ⟨⟨h2, h3⟩, h4⟩
theorem needF_iff {b : List (List Int)} {i j k : Int} : ∀ n, k ∈ needF b i j n ↔ ∃ m, m < n ∧ (m : Int) ≠ i ∧ (m : Int) ≠ j ∧ k ∈ b.getD m []
  | 0 => by simp [needF]
  | n + 1 => by
    rw [needF, List.mem_append, needF_iff n]
    constructor
    · rintro (⟨m, h1, h2⟩ | h)
      · exact ⟨m, by omega, h2⟩
      · split at h
        · rename_i hc; exact ⟨n, by omega, hc.1, hc.2, h⟩
        · simp at h
    · rintro ⟨m, h1, h2, h3, h4⟩
      rcases Nat.lt_or_ge m n with h | h
      · exact Or.inl ⟨m, h, h2, h3, h4⟩
      · have : m = n := by omega
        subst this; exact Or.inr (by rw [if_pos ⟨h2, h3⟩]; exact h4)
theorem restF_iff {b : List (List Int)} {i j k : Int} : ∀ n, k ∈ (restF b i j n).flatten ↔ ∃ m, m < n ∧ (m : Int) ≠ i ∧ (m : Int) ≠ j ∧ k ∈ b.getD m []
  | 0 => by simp [restF]
  | n + 1 => by
    rw [restF, List.flatten_append, List.mem_append, restF_iff n]
    constructor
    · rintro (⟨m, h1, h2⟩ | h)
      · exact ⟨m, by omega, h2⟩
      · split at h
        · rename_i hc; exact ⟨n, by omega, hc.1, hc.2, by simpa using h⟩
        · simp at h
    · rintro ⟨m, h1, h2, h3, h4⟩
      rcases Nat.lt_or_ge m n with h | h
      · exact Or.inl ⟨m, h, h2, h3, h4⟩
      · have : m = n := by omega
        subst this; exact Or.inr (by rw [if_pos ⟨h2, h3⟩]; simpa using h4)
theorem keep_eq {b : List (List Int)} {out : List Int} {i j : Int} {k : Int} (hk : k ∈ labs) : (keepF b out i j).contains k = (keptF b out i j).contains k := by
  rw [Bool.eq_iff_iff, List.contains_iff_mem, List.contains_iff_mem, keptF_mem, needF_iff]
  unfold keepF
  rw [List.mem_flatMap]
  constructor
  · rintro ⟨x, hx, h⟩
    split at h
    · rename_i hc
      have : k = x := by simpa using h
      subst this
      unfold keepP at hc
      simp only [Bool.and_eq_true, Bool.or_eq_true, List.contains_iff_mem, othN_iff] at hc
      exact hc
    · simp at h
  · intro h
    refine ⟨k, hk, ?_⟩
    rw [if_pos]
    · simp
    · unfold keepP
      simp only [Bool.and_eq_true, Bool.or_eq_true, List.contains_iff_mem, othN_iff]
      exact h
/-- every label's extent is told -/
def extNN (e : List Int) (b : List (List Int)) : Prop := ∀ k, k < b.length → ∀ x ∈ b.getD k [], 0 ≤ e.getD x.toNat 0
theorem cost_eq {e : List Int} {b : List (List Int)} {out : List Int} {i j : Int} (hp : pairIn b.length i j) (hl : labsIn b) (hn : extNN e b) : costI e b out i j = costS e b out i j := by
  obtain ⟨i1, i2, j1, j2⟩ := hp
  have hli := hl i.toNat (by omega)
  have hlj := hl j.toNat (by omega)
  unfold costI costS
  rw [cost_lab (f := costA e b i j), cost_lab (f := costR e b out i j)]
  · intro x hx
    rw [List.flatten_cons, List.mem_append, restF_iff] at hx
    rcases hx with h | ⟨m, m1, _, _, h⟩
    · rcases (keptF_mem.1 h).1 with h | h
      · exact labOK_mem hli h
      · exact labOK_mem hlj h
    · exact labOK_mem (hl m m1) h
  · intro x hx
    rw [List.flatten_cons, List.mem_append, restF_iff] at hx
    rcases hx with h | ⟨m, m1, _, _, h⟩
    · rcases (keptF_mem.1 h).1 with h | h
      · exact hn _ (by omega) x h
      · exact hn _ (by omega) x h
    · exact hn m m1 x h
  · intro k hk
    unfold costR
    have : (othN b i j k b.length || (keepF b out i j).contains k) = (keptF b out i j :: restF b i j b.length).flatten.contains k := by
      rw [keep_eq hk, Bool.eq_iff_iff, Bool.or_eq_true, List.contains_iff_mem, List.contains_iff_mem, othN_iff, List.flatten_cons, List.mem_append, restF_iff, or_comm]
    rw [this]
  · intro x hx
    simp only [List.flatten_cons, List.flatten_nil, List.append_nil, List.mem_append] at hx
    rcases hx with h | h
    · exact labOK_mem hli h
    · exact labOK_mem hlj h
  · intro x hx
    simp only [List.flatten_cons, List.flatten_nil, List.append_nil, List.mem_append] at hx
    rcases hx with h | h
    · exact hn _ (by omega) x h
    · exact hn _ (by omega) x h
  · intro k hk
    unfold costA
    have : ((b.getD i.toNat []).contains k || (b.getD j.toNat []).contains k) = [b.getD i.toNat [], b.getD j.toNat []].flatten.contains k := by
      rw [Bool.eq_iff_iff, Bool.or_eq_true, List.contains_iff_mem, List.contains_iff_mem, List.contains_iff_mem]
      simp
    rw [this]

theorem extIn_nn : ∀ (z : List (Int × Int)) (o o' : List Int), o.length = 5 → (∀ p ∈ z, (0 ≤ p.1 ∧ p.1 ≤ 4) ∧ 0 ≤ p.2) → extIn o z = some o' →
    (∀ k, 0 ≤ o.getD k 0 → 0 ≤ o'.getD k 0) ∧ ∀ p ∈ z, 0 ≤ o'.getD p.1.toNat 0
  | [], o, o', _, _, h => by simp [extIn] at h; subst h; simp
  | x :: r, o, o', ho, hz, h => by
    unfold extIn at h
    split at h
    · simp at h
    · obtain ⟨⟨x1, x2⟩, x3⟩ := hz x (by simp)
      obtain ⟨g1, g2⟩ := extIn_nn r _ o' (by simp [ho]) (fun p hp => hz p (by simp [hp])) h
      have hs : 0 ≤ (o.set x.1.toNat x.2).getD x.1.toNat 0 := by rw [getD_set, if_pos ⟨rfl, by omega⟩]; exact x3
      refine ⟨fun k hk => g1 k ?_, fun p hp => ?_⟩
      · rw [getD_set]
        split
        · exact x3
        · exact hk
      · rcases List.mem_cons.1 hp with rfl | hp
        · exact g1 _ hs
        · exact g2 p hp
theorem tsrOK_dims {x : Tsr} (h : tsrOK x = true) : x.sh.length ≤ 4 ∧ ∀ d ∈ x.sh, 0 ≤ d ∧ d ≤ 60 := by
  unfold tsrOK shapeOK at h
  simp only [Bool.and_eq_true, decide_eq_true_eq, List.all_eq_true] at h
  refine ⟨h.1.1.1.1, fun d hd => ?_⟩
  have := h.1.1.1.2 d hd
  unfold inExt at this
  simpa using this
theorem extAll_nn : ∀ (z : List (Tsr × List Int)) (o o' : List Int), o.length = 5 → extAll tsrOK o z = some o' →
    (∀ k, 0 ≤ o.getD k 0 → 0 ≤ o'.getD k 0) ∧ ∀ x ∈ z, (x.2.length ≤ 4 ∧ labOK x.2 = true) ∧ ∀ y ∈ x.2, 0 ≤ o'.getD y.toNat 0
  | [], o, o', _, h => by simp [extAll] at h; subst h; simp
  | x :: r, o, o', ho, h => by
    unfold extAll at h
    split at h
    · rename_i hc
      simp only [Option.bind_eq_some_iff] at h
      obtain ⟨o1, h1, h2⟩ := h
      have hd := tsrOK_dims hc.1
      obtain ⟨a1, a2⟩ := extIn_nn _ o o1 ho (fun p hp => by
        have hm := List.of_mem_zip hp
        have := labOK_mem hc.2.2 hm.1
        exact ⟨⟨this.1, by omega⟩, (hd.2 _ hm.2).1⟩) h1
      obtain ⟨b1, b2⟩ := extAll_nn r o1 o' (by rw [extIn_len _ _ _ h1, ho]) h2
      refine ⟨fun k hk => b1 k (a1 k hk), fun y hy => ?_⟩
      rcases List.mem_cons.1 hy with rfl | hy
      · refine ⟨⟨by omega, hc.2.2⟩, fun l hl => ?_⟩
        obtain ⟨i, hi, rfl⟩ := List.mem_iff_getElem.1 hl
        have hm : (y.2[i], y.1.sh[i]'(by omega)) ∈ y.2.zip y.1.sh := by
          rw [List.mem_iff_getElem]
          exact ⟨i, by rw [List.length_zip]; omega, by simp⟩
        exact b1 _ (a2 _ hm)
      · exact b2 y hy
    · simp at h
theorem extF_facts {l : List Tsr} {b : List (List Int)} {e : List Int} (h : extF l b = some e) : labsIn b ∧ extNN e b ∧ ∀ k, k < b.length → (b.getD k []).length ≤ 4 := by
  obtain ⟨h1, h2, h3, h4, h5⟩ := extF_len h
  unfold extF at h
  rw [if_pos ⟨h4, h5, h2⟩] at h
  obtain ⟨_, g⟩ := extAll_nn _ _ _ rfl h
  have hm : ∀ k, k < b.length → (l.getD k ⟨[], []⟩, b.getD k []) ∈ l.zip b := fun k hk => by
    rw [List.mem_iff_getElem]
    exact ⟨k, by rw [List.length_zip]; omega, by simp [hk, show k < l.length by omega]⟩
  exact ⟨fun k hk => (g _ (hm k hk)).1.2, fun k hk => (g _ (hm k hk)).2, fun k hk => (g _ (hm k hk)).1.1⟩

def gTrue5 (l : List Tsr) (b : List (List Int)) (out : List Int) (i j : Int) : Option Bool := gd ((l.length ≤ 9223372036854775807 ∧ b.length ≤ 9223372036854775807 ∧ out.length ≤ 9223372036854775807) ∧ tsrsBig l ∧ bigRows b) true
end Go.Proofs.Ytgepbcakcjdmoaa
