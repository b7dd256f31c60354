/- Contracts of functions that the laws of this seat call. -/
import Derived.Test.YtfjhhbpipococaaLc
set_option linter.all false
namespace Go.Proofs.Ytfjhhbpipococaa
open Go Go.Ev Go.RowKit Go.Ev.Enc Go.Pl

theorem contrF_good {l : List Tsr} {b : List (List Int)} {out e : List Int} {t : Tsr} (h : contrF l b out e = some t) : goodF out e = true := by
  unfold contrF at h
  split at h
  · rename_i hc; exact hc.1
  · simp at h
theorem mem_getD {r : List Int} {u : Int} (h : u ∈ r) : ∃ d, d < r.length ∧ r.getD d 0 = u := by
  obtain ⟨d, hd, rfl⟩ := List.mem_iff_getElem.1 h
  exact ⟨d, hd, by simp [hd]⟩
theorem ext_at {l : List Tsr} {b : List (List Int)} {e : List Int} (hx : ExtOK l b e) {k : Nat} (hk : k < b.length) {u : Int} (hu : u ∈ b.getD k []) : ∃ d, d < (b.getD k []).length ∧ (b.getD k []).getD d 0 = u ∧ e.getD u.toNat 0 = (l.getD k ⟨[], []⟩).sh.getD d 0 := by
  obtain ⟨d, hd, rfl⟩ := mem_getD hu
  exact ⟨d, hd, rfl, hx.ext k hk d hd⟩
theorem ext_of {l : List Tsr} {b : List (List Int)} {e : List Int} (hx : ExtOK l b e) {k d : Nat} (hk : k < b.length) (hd : d < (b.getD k []).length) : e.getD ((b.getD k []).getD d 0).toNat 0 = (l.getD k ⟨[], []⟩).sh.getD d 0 := hx.ext k hk d hd
theorem flat_mem {b : List (List Int)} {u : Int} : u ∈ b.flatten ↔ ∃ m, m < b.length ∧ u ∈ b.getD m [] := by
  rw [List.mem_flatten]
  constructor
  · rintro ⟨r, hr, hu⟩
    obtain ⟨m, hm, rfl⟩ := List.mem_iff_getElem.1 hr
    exact ⟨m, hm, by simpa [hm] using hu⟩
  · rintro ⟨m, hm, hu⟩
    exact ⟨b.getD m [], getD_mem' [] hm, hu⟩
theorem rest_at {l : List Tsr} {b : List (List Int)} {i j : Int} : ∀ k, k ≤ l.length → ∀ q, q < (restF b i j k).length → ∃ m, m < k ∧ (restF b i j k).getD q [] = b.getD m [] ∧ (restT l i j k).getD q ⟨[], []⟩ = l.getD m ⟨[], []⟩
  | 0, _, q, hq => by simp [restF] at hq
  | k + 1, hk, q, hq => by
    have hT : restT l i j (k + 1) = restT l i j k ++ if (k : Int) ≠ i ∧ (k : Int) ≠ j then [l.getD k ⟨[], []⟩] else [] := rfl
    have hF : restF b i j (k + 1) = restF b i j k ++ if (k : Int) ≠ i ∧ (k : Int) ≠ j then [b.getD k []] else [] := rfl
    have hl := rest_len l b i j k
    rw [hF] at hq
    rw [hT, hF]
    by_cases hlt : q < (restF b i j k).length
    · obtain ⟨m, m1, m2, m3⟩ := rest_at (l := l) k (by omega) q hlt
      refine ⟨m, by omega, ?_, ?_⟩
      · rw [← m2]; simp only [List.getD_eq_getElem?_getD]; rw [List.getElem?_append_left hlt]
      · rw [← m3]; simp only [List.getD_eq_getElem?_getD]; rw [List.getElem?_append_left (by omega)]
    · split at hq
      · rename_i hc
        rw [List.length_append, List.length_singleton] at hq
        refine ⟨k, by omega, ?_, ?_⟩
        · rw [if_pos hc]; simp only [List.getD_eq_getElem?_getD]; rw [List.getElem?_append_right (by omega), show q - (restF b i j k).length = 0 by omega]; rfl
        · rw [if_pos hc]; simp only [List.getD_eq_getElem?_getD]; rw [List.getElem?_append_right (by omega), show q - (restT l i j k).length = 0 by omega]; rfl
      · rw [List.append_nil] at hq; exact absurd hq hlt
theorem labs_in {k : Int} (h : k ∈ labs) : 0 ≤ k ∧ k < 5 := by
  simp only [labs, List.mem_cons, List.not_mem_nil, or_false] at h
  omega
theorem in_labs {x : Int} (h : 0 ≤ x ∧ x < 5) : x ∈ labs := by
  have : x = 0 ∨ x = 1 ∨ x = 2 ∨ x = 3 ∨ x = 4 := by omega
  rcases this with rfl | rfl | rfl | rfl | rfl <;> simp [labs]
theorem labs_ne : labs.Pairwise (fun a b => a.toNat ≠ b.toNat) := by simp [labs]
theorem fil_z {p : Int → Bool} {n : Nat} (hn : n = 5) : ∀ u ∈ labs.filter p, 0 ≤ u ∧ u.toNat < n := fun u hu => by
  have := labs_in (List.mem_filter.1 hu).1
  omega
theorem fil_ne (p : Int → Bool) : (labs.filter p).Pairwise (fun a b => a.toNat ≠ b.toNat) := labs_ne.sublist List.filter_sublist
/-- the sum of one label after another, where the labels that come last are seen by some factors only -/
theorem sumL_inner {e sh out : List Int} {r : Nat} {P Q : List Int → Int} {W SQ : List Int} (hW : ∀ u ∈ W, 0 ≤ u ∧ u.toNat < 5) (hQ : depL SQ Q) (h1 : ∀ u ∈ out, ¬ u ∈ W ∧ 0 ≤ u) (h2 : ∀ u ∈ SQ, ¬ u ∈ W ∧ 0 ≤ u) {al : List Int} (hl : al.length = 5) :
    sumL e W (fun a => if atR sh a out = r then P a * Q a else 0) al = if atR sh al out = r then sumL e W P al * Q al else 0 := by
  have h3 : sumL e W (fun a => if atR sh a out = r then P a * Q a else 0) al = sumL e W (fun a => (if atR sh al out = r then Q al else 0) * P a) al := by
    refine sumL_congr W al (fun u hu => by have := hW u hu; omega) fun a ha => ?_
    have e1 : atR sh a out = atR sh al out := atR_dep fun u hu => ha.out u.toNat (by have := h1 u hu; rw [Int.toNat_of_nonneg this.2]; exact this.1)
    have e2 : Q a = Q al := hQ a al fun u hu => ha.out u.toNat (by have := h2 u hu; rw [Int.toNat_of_nonneg this.2]; exact this.1)
    rw [e1, e2]
    split
    · rw [Int.mul_comm]
    · rw [Int.zero_mul]
  rw [h3, sumL_mul]
  split
  · rw [Int.mul_comm]
  · rw [Int.zero_mul]
set_option maxHeartbeats 2000000 in
/-- **by two first, the values are the same** -/
theorem by_get {l : List Tsr} {b : List (List Int)} {out e : List Int} {i j : Int} {f t : Tsr} (hE : extF l b = some e) (hp : pairOK l.length i j) (hL : labOK out = true) (hf : con2 l b out i j = some f) (ht : conR l b out i j f = some t) :
    t.sh = tkn e out ∧ t.vl.length = (prodW (tkn e out)).toNat ∧ ∀ r, r < t.vl.length → t.vl.getD r 0 = IntKind.i64.wrap (sumG l b out (tkn e out) e r (srt b.flatten) (List.replicate 5 0)) := by
  have hx := extOK_of hE
  have hfe := extF_facts hE
  have hbl := hx.bl
  obtain ⟨p1, p2, p3, p4, p5⟩ := hp
  unfold con2 conF at hf
  unfold conR conF at ht
  simp only [Option.bind_eq_some_iff] at hf ht
  obtain ⟨e1, hE1, hc1⟩ := hf
  obtain ⟨e2, hE2, hc2⟩ := ht
  have hx1 := extOK_of hE1
  have hx2 := extOK_of hE2
  obtain ⟨c1, c2, c3⟩ := contr_get hE1 hc1
  obtain ⟨d1, d2, d3⟩ := contr_get hE2 hc2
  have hg1 := contrF_good hc1
  have hg2 := contrF_good hc2
  obtain ⟨gK1, gK2, gK3, gK4, gK5⟩ := goodF_facts hg1
  obtain ⟨gO1, gO2, gO3, gO4, gO5⟩ := goodF_facts hg2
  have hKm : ∀ u, u ∈ keptF b out i j ↔ (u ∈ b.getD i.toNat [] ∨ u ∈ b.getD j.toNat []) ∧ (u ∈ out ∨ u ∈ (restF b i j b.length).flatten) := fun u => by rw [keptF_mem, needF_iff, restF_iff]
  have hBm : ∀ u, u ∈ (restF b i j b.length).flatten ↔ ∃ m, m < b.length ∧ (m : Int) ≠ i ∧ (m : Int) ≠ j ∧ u ∈ b.getD m [] := fun u => restF_iff _
  have hUm : ∀ u, u ∈ b.flatten ↔ (u ∈ b.getD i.toNat [] ∨ u ∈ b.getD j.toNat []) ∨ u ∈ (restF b i j b.length).flatten := fun u => by
    rw [flat_mem, hBm]
    constructor
    · rintro ⟨m, m1, m2⟩
      by_cases h1 : (m : Int) = i
      · exact .inl (.inl (by rw [show i.toNat = m by omega]; exact m2))
      · by_cases h2 : (m : Int) = j
        · exact .inl (.inr (by rw [show j.toNat = m by omega]; exact m2))
        · exact .inr ⟨m, m1, h1, h2, m2⟩
    · rintro ((h | h) | ⟨m, m1, _, _, m2⟩)
      · exact ⟨i.toNat, by omega, h⟩
      · exact ⟨j.toNat, by omega, h⟩
      · exact ⟨m, m1, m2⟩
  have hU5 : ∀ u ∈ b.flatten, 0 ≤ u ∧ u < 5 := srt_in hx.lab
  -- the extents agree
  have hE1e : ∀ u, (u ∈ b.getD i.toNat [] ∨ u ∈ b.getD j.toNat []) → e1.getD u.toNat 0 = e.getD u.toNat 0 := fun u hu => by
    rcases hu with hu | hu
    · obtain ⟨d, hd, rfl⟩ := mem_getD hu
      have a1 := ext_of hx (k := i.toNat) (by omega) hd
      have a2 := ext_of hx1 (k := 0) (by simp) (d := d) hd
      simp only [List.getD_cons_zero] at a2
      rw [a1, a2]
    · obtain ⟨d, hd, rfl⟩ := mem_getD hu
      have a1 := ext_of hx (k := j.toNat) (by omega) hd
      have a2 := ext_of hx1 (k := 1) (by simp) (d := d) hd
      simp only [List.getD_cons_succ, List.getD_cons_zero] at a2
      rw [a1, a2]
  have hE2e : ∀ u, (u ∈ keptF b out i j ∨ u ∈ (restF b i j b.length).flatten) → e2.getD u.toNat 0 = e.getD u.toNat 0 := fun u hu => by
    rcases hu with hu | hu
    · rw [← hE1e u ((hKm u).1 hu).1]
      obtain ⟨d, hd, rfl⟩ := mem_getD hu
      have a2 := ext_of hx2 (k := 0) (by simp) (d := d) hd
      simp only [List.getD_cons_zero] at a2
      rw [a2, c1, tkn_at hd]
    · obtain ⟨q, hq, hqu⟩ := flat_mem.1 hu
      have hq' := hq
      rw [hbl] at hq'
      obtain ⟨m, m1, m2, m3⟩ := rest_at (l := l) (b := b) l.length (Nat.le_refl _) q hq'
      rw [← hbl] at m2
      obtain ⟨d, hd, rfl⟩ := mem_getD hqu
      have a2 := ext_of hx2 (k := q + 1) (by simp; omega) (d := d) (by rw [List.getD_cons_succ]; exact hd)
      simp only [List.getD_cons_succ] at a2
      rw [m2] at hd ⊢
      rw [m2] at a2
      rw [a2, m3, ext_of hx (k := m) (by omega) hd]
  have hOut : ∀ u ∈ out, u ∈ keptF b out i j ∨ u ∈ (restF b i j b.length).flatten := fun u hu => by
    have h5 := labOK_mem hL hu
    by_cases hin : u ∈ (keptF b out i j :: restF b i j b.length).flatten
    · simpa using hin
    · exfalso
      have h6 := extF_un hE2 (k := u.toNat) (by omega) (fun x hxf hxe => hin (by
        have := srt_in hx2.lab x hxf
        rwa [show u = x by omega]))
      have h7 : e2.getD u.toNat 0 ∈ tkn e2 out := List.mem_map.2 ⟨u, hu, rfl⟩
      have := (gO3 _ h7).1
      omega
  have hsh : tkn e2 out = tkn e out := tkn_dep fun u hu => hE2e u (hOut u hu)
  rw [hsh] at d1 d2 d3 gO3 gO4
  refine ⟨d1, d2, fun r hr => ?_⟩
  -- the labels
  have hs : srt b.flatten = labs.filter fun k => b.flatten.contains k := srt_lab hU5
  have hs1 : srt [b.getD i.toNat [], b.getD j.toNat []].flatten = labs.filter fun k => [b.getD i.toNat [], b.getD j.toNat []].flatten.contains k := srt_lab (srt_in hx1.lab)
  have hs2 : srt (keptF b out i j :: restF b i j b.length).flatten = labs.filter fun k => (keptF b out i j :: restF b i j b.length).flatten.contains k := srt_lab (srt_in hx2.lab)
  have h1m : ∀ u, u ∈ [b.getD i.toNat [], b.getD j.toNat []].flatten ↔ (u ∈ b.getD i.toNat [] ∨ u ∈ b.getD j.toNat []) := fun u => by simp
  have h2m : ∀ u, u ∈ (keptF b out i j :: restF b i j b.length).flatten ↔ (u ∈ keptF b out i j ∨ u ∈ (restF b i j b.length).flatten) := fun u => by simp
  rw [d3 r hr, hs, hs2, sumG_L, sumG_L]
  rw [hs1] at c3
  generalize hWd : (labs.filter fun k => [b.getD i.toNat [], b.getD j.toNat []].flatten.contains k && !(keptF b out i j).contains k) = W
  have hWm : ∀ u, u ∈ W ↔ (u ∈ b.getD i.toNat [] ∨ u ∈ b.getD j.toNat []) ∧ ¬ u ∈ keptF b out i j := fun u => by
    rw [← hWd, List.mem_filter, Bool.and_eq_true, List.contains_iff_mem, h1m, Bool.not_eq_true', ← Bool.not_eq_true, List.contains_iff_mem]
    exact ⟨fun h => h.2, fun h => ⟨in_labs (hU5 u ((hUm u).2 (.inl h.1))), h⟩⟩
  have hW5 : ∀ u ∈ W, 0 ≤ u ∧ u.toNat < 5 := fun u hu => by rw [← hWd] at hu; exact fil_z rfl u hu
  have hWo : ∀ u ∈ out, ¬ u ∈ W ∧ 0 ≤ u := fun u hu => ⟨fun hw => ((hWm u).1 hw).2 ((hKm u).2 ⟨((hWm u).1 hw).1, .inl hu⟩), (labOK_mem hL hu).1⟩
  have hWB : ∀ u ∈ (restF b i j b.length).flatten, ¬ u ∈ W ∧ 0 ≤ u := fun u hu => ⟨fun hw => ((hWm u).1 hw).2 ((hKm u).2 ⟨((hWm u).1 hw).1, .inr hu⟩), (hU5 u ((hUm u).2 (.inr hu))).1⟩
  have hWK : ∀ u ∈ keptF b out i j, ¬ u ∈ W ∧ 0 ≤ u := fun u hu => ⟨fun hw => ((hWm u).1 hw).2 hu, (hU5 u ((hUm u).2 (.inl ((hKm u).1 hu).1))).1⟩
  -- the value of the first contraction
  have hval : ∀ al, Rch e2 (labs.filter fun k => (keptF b out i j :: restF b i j b.length).flatten.contains k) (List.replicate 5 0) al →
      valT f (keptF b out i j) al = IntKind.i64.wrap (sumL e W (prodT [l.getD i.toNat ⟨[], []⟩, l.getD j.toNat ⟨[], []⟩] [b.getD i.toNat [], b.getD j.toNat []]) al) := fun al hal => by
    have hal5 : al.length = 5 := by simpa using hal.len
    have hinn : ∀ u ∈ keptF b out i j, 0 ≤ al.getD u.toNat 0 ∧ al.getD u.toNat 0 < e1.getD u.toNat 0 := fun u hu => by
      have := hal.inn u (List.mem_filter.2 ⟨in_labs (hU5 u ((hUm u).2 (.inl ((hKm u).1 hu).1))), List.contains_iff_mem.2 ((h2m u).2 (.inl hu))⟩)
      rw [hE2e u (.inl hu), ← hE1e u ((hKm u).1 hu).1] at this
      exact this
    have hrk : ∀ {a : List Int}, (∀ u ∈ keptF b out i j, 0 ≤ a.getD u.toNat 0 ∧ a.getD u.toNat 0 < e1.getD u.toNat 0) → ∀ d, d < (tkn e1 (keptF b out i j)).length → 0 ≤ (tkn a (keptF b out i j)).getD d 0 ∧ (tkn a (keptF b out i j)).getD d 0 < (tkn e1 (keptF b out i j)).getD d 0 := fun {a} ha d hd => by
      rw [tkn_len] at hd
      rw [tkn_at hd, tkn_at hd]
      exact ha _ (gmem hd)
    have hlt := rank_lt gK3 gK4 (hrk hinn) _ (Nat.le_refl _)
    rw [List.take_length, ← prodW_eq gK3 (by omega)] at hlt
    unfold valT
    rw [c1]
    have hq := c3 (atR (tkn e1 (keptF b out i j)) al (keptF b out i j)) (by rw [c2]; unfold atR; omega)
    rw [sumG_L] at hq
    unfold atR at hq
    rw [hq]
    clear hq
    show IntKind.i64.wrap (sumL e1 _ (fun a => if atR (tkn e1 (keptF b out i j)) a (keptF b out i j) = atR (tkn e1 (keptF b out i j)) al (keptF b out i j) then _ else 0) _) = _
    rw [sumL_wcongr (G := fun a => if atR (tkn e1 (keptF b out i j)) a (keptF b out i j) = atR (tkn e1 (keptF b out i j)) al (keptF b out i j) then prodT [l.getD i.toNat ⟨[], []⟩, l.getD j.toNat ⟨[], []⟩] [b.getD i.toNat [], b.getD j.toNat []] a * 1 else 0) _ _ (fil_z (by simp)) (fun a _ => by
      split
      · rw [Int.mul_one]; exact term_all (by rfl) a
      · rfl)]
    rw [sumL_split _ _ (fun k => (keptF b out i j).contains k) (fun k => [b.getD i.toNat [], b.getD j.toNat []].flatten.contains k && !(keptF b out i j).contains k) labs _ labs_ne (fun u hu => by
      by_cases hk : u ∈ keptF b out i j
      · have h8 := List.contains_iff_mem.2 hk
        have h9 := List.contains_iff_mem.2 ((h1m u).2 ((hKm u).1 hk).1)
        rw [h8, h9]; exact ⟨rfl, rfl⟩
      · have h8 : (keptF b out i j).contains u = false := by rw [← Bool.not_eq_true, List.contains_iff_mem]; exact hk
        rw [h8]; simp)]
    rw [hWd]
    rw [sumL_congr (G := fun a => if atR (tkn e1 (keptF b out i j)) a (keptF b out i j) = atR (tkn e1 (keptF b out i j)) al (keptF b out i j) then sumL e1 W (prodT [l.getD i.toNat ⟨[], []⟩, l.getD j.toNat ⟨[], []⟩] [b.getD i.toNat [], b.getD j.toNat []]) a * 1 else 0) _ _ (fil_z (by simp)) (fun a ha => sumL_inner (Q := fun _ => 1) (SQ := []) hW5 (fun _ _ _ => rfl) hWK (by simp) (by simpa using ha.len))]
    rw [sumL_pick (m := al) _ _ (fil_ne _) (fil_z (by simp)) (fun u hu => hinn u (List.contains_iff_mem.1 (List.mem_filter.1 hu).2)) (fun a ha hex => by
      rw [if_neg]
      intro heq
      obtain ⟨u, hu, hne⟩ := hex
      have huK := List.contains_iff_mem.1 (List.mem_filter.1 hu).2
      have hinna : ∀ u ∈ keptF b out i j, 0 ≤ a.getD u.toNat 0 ∧ a.getD u.toNat 0 < e1.getD u.toNat 0 := fun u hu => ha.inn u (List.mem_filter.2 ⟨in_labs (hU5 u ((hUm u).2 (.inl ((hKm u).1 hu).1))), List.contains_iff_mem.2 hu⟩)
      have hlta := rank_lt gK3 gK4 (hrk hinna) _ (Nat.le_refl _)
      unfold atR at heq
      obtain ⟨d, hd, rfl⟩ := mem_getD huK
      have := rank_inj gK3 gK4 (hrk hinna) (hrk hinn) _ (Nat.le_refl _) (by omega) d (by rw [tkn_len]; exact hd)
      rw [tkn_at hd, tkn_at hd] at this
      exact hne this)]
    have hset : ∀ u ∈ keptF b out i j, (setL (labs.filter fun k => (keptF b out i j).contains k) al (List.replicate 5 0)).getD u.toNat 0 = al.getD u.toNat 0 := fun u hu => by
      have h5 := hU5 u ((hUm u).2 (.inl ((hKm u).1 hu).1))
      exact setL_in _ _ _ (by simp; omega) ⟨u, List.mem_filter.2 ⟨in_labs h5, List.contains_iff_mem.2 hu⟩, rfl⟩
    rw [if_pos (atR_dep hset), Int.mul_one]
    congr 1
    rw [sumL_ext (e' := e) W _ (fun u hu => hE1e u ((hWm u).1 hu).1)]
    refine sumL_dep (S := [b.getD i.toNat [], b.getD j.toNat []].flatten) (prodT_dep _ _) W _ _ (by rw [setL_len]; simp [hal5]) (fun u hu hn => hset u ?_) (fun u hu => by rw [setL_len]; have := hW5 u hu; simp; omega) (fun u hu => (hU5 u ((hUm u).2 (.inl ((h1m u).1 hu)))).1)
    exact Classical.byContradiction fun hk => hn ((hWm u).2 ⟨(h1m u).1 hu, hk⟩)
  -- both sides
  have hlhs : IntKind.i64.wrap (sumL e2 (labs.filter fun k => (keptF b out i j :: restF b i j b.length).flatten.contains k) (fun al => if atR (tkn e out) al out = r then termS (f :: restT l i j l.length) (keptF b out i j :: restF b i j b.length) al (f :: restT l i j l.length).length else 0) (List.replicate 5 0)) =
      IntKind.i64.wrap (sumL e (labs.filter fun k => (keptF b out i j :: restF b i j b.length).flatten.contains k) (fun al => if atR (tkn e out) al out = r then sumL e W (prodT [l.getD i.toNat ⟨[], []⟩, l.getD j.toNat ⟨[], []⟩] [b.getD i.toNat [], b.getD j.toNat []]) al * prodT (restT l i j l.length) (restF b i j b.length) al else 0) (List.replicate 5 0)) := by
    rw [← sumL_ext (e := e2) (e' := e) _ _ (fun u hu => hE2e u ((h2m u).1 (List.contains_iff_mem.1 (List.mem_filter.1 hu).2)))]
    refine sumL_wcongr _ _ (fil_z (by simp)) fun al hal => ?_
    split
    · rw [term_all (by rw [List.length_cons, List.length_cons, rest_len l b, hbl]), prodT, hval al hal, w_mul]
    · rfl
  rw [hlhs]
  rw [sumL_wcongr (G := fun al => if atR (tkn e out) al out = r then prodT [l.getD i.toNat ⟨[], []⟩, l.getD j.toNat ⟨[], []⟩] [b.getD i.toNat [], b.getD j.toNat []] al * prodT (restT l i j l.length) (restF b i j b.length) al else 0) (F := fun al => if atR (tkn e out) al out = r then termS l b al l.length else 0) _ _ (fil_z (by simp)) (fun al _ => by
    split
    · rw [term_all hbl]
      have h8 := prod_rest (l := l) (b := b) al p5 p1 p3 hbl l.length (Nat.le_refl _)
      rw [List.take_length, List.take_of_length_le (by omega), if_pos p2, if_pos p4, ← hbl] at h8
      rw [h8]
      simp only [prodT, Int.mul_one, hbl]
    · rfl)]
  rw [sumL_split (e := e) _ (fun k => b.flatten.contains k) (fun k => (keptF b out i j :: restF b i j b.length).flatten.contains k) (fun k => [b.getD i.toNat [], b.getD j.toNat []].flatten.contains k && !(keptF b out i j).contains k) labs _ labs_ne (fun u hu => by
    refine ⟨?_, ?_⟩
    · rw [Bool.eq_iff_iff, Bool.or_eq_true, Bool.and_eq_true, Bool.not_eq_true', ← Bool.not_eq_true, List.contains_iff_mem, List.contains_iff_mem, List.contains_iff_mem, List.contains_iff_mem, hUm, h1m, h2m]
      constructor
      · rintro (h | h)
        · by_cases hk : u ∈ keptF b out i j
          · exact .inl (.inl hk)
          · exact .inr ⟨h, hk⟩
        · exact .inl (.inr h)
      · rintro ((h | h) | h)
        · exact .inl ((hKm u).1 h).1
        · exact .inr h
        · exact .inl h.1
    · rw [← Bool.not_eq_true, Bool.and_eq_true, Bool.and_eq_true, Bool.not_eq_true', ← Bool.not_eq_true, List.contains_iff_mem, List.contains_iff_mem, List.contains_iff_mem, h1m, h2m]
      rintro ⟨h | h, h3, h4⟩
      · exact h4 h
      · exact h4 ((hKm u).2 ⟨h3, .inr h⟩))]
  rw [hWd]
  congr 1
  refine sumL_congr _ _ (fil_z (by simp)) fun al hal => ?_
  exact (sumL_inner hW5 (prodT_dep _ _) hWo hWB (by simpa using hal.len)).symm
end Go.Proofs.Ytfjhhbpipococaa
