/- Contracts of functions that the laws of this seat call. -/
import Derived.Test.YtfjhhbpipococaaHd
import Derived.Test.YtfjhhbpipococaaLa
set_option linter.all false
namespace Go.Proofs.Ytfjhhbpipococaa
open Go Go.Ev Go.RowKit Go.Ev.Enc Go.Pl

/-! ### sums over the numbers of labels, of any term -/
def sumL (e : List Int) : List Int → (List Int → Int) → List Int → Int
  | [], F, nums => F nums
  | u :: us, F, nums => sumN (e.getD u.toNat 0).toNat fun x => sumL e us F (nums.set u.toNat (x : Int))
theorem sumG_L (l : List Tsr) (b : List (List Int)) (out sh e : List Int) (r : Nat) : ∀ us nums : List Int, sumG l b out sh e r us nums = sumL e us (fun al => if atR sh al out = r then termS l b al l.length else 0) nums
  | [], nums => rfl
  | u :: us, nums => by
    rw [sumG, sumL]
    exact sumN_congr fun x _ => sumG_L l b out sh e r us _
/-- what the numbers are at which a sum looks -/
structure Rch (e us nums al : List Int) : Prop where
  len : al.length = nums.length
  inn : ∀ u ∈ us, 0 ≤ al.getD u.toNat 0 ∧ al.getD u.toNat 0 < e.getD u.toNat 0
  out : ∀ k : Nat, ¬ (k : Int) ∈ us → al.getD k 0 = nums.getD k 0
theorem Rch.cons {e us nums al : List Int} {u : Int} {x : Nat} (hu : 0 ≤ u ∧ u.toNat < nums.length) (hx : x < (e.getD u.toNat 0).toNat) (h : Rch e us (nums.set u.toNat (x : Int)) al) : Rch e (u :: us) nums al := by
  have hl : (nums.set u.toNat (x : Int)).length = nums.length := by simp
  refine ⟨h.len.trans hl, fun w hw => ?_, fun k hk => ?_⟩
  · by_cases hws : w ∈ us
    · exact h.inn w hws
    · rcases List.mem_cons.1 hw with rfl | hw
      · have := h.out w.toNat (by rwa [Int.toNat_of_nonneg hu.1])
        rw [getD_set, if_pos ⟨rfl, hu.2⟩] at this
        omega
      · exact absurd hw hws
  · rw [List.mem_cons, not_or] at hk
    rw [h.out k hk.2, getD_set, if_neg (fun hh => hk.1 (by omega))]
theorem sumL_congr {e : List Int} {F G : List Int → Int} : ∀ (us nums : List Int), (∀ u ∈ us, 0 ≤ u ∧ u.toNat < nums.length) → (∀ al, Rch e us nums al → F al = G al) → sumL e us F nums = sumL e us G nums
  | [], nums, _, h => h nums ⟨rfl, by simp, fun _ _ => rfl⟩
  | u :: us, nums, hu, h => by
    rw [sumL, sumL]
    refine sumN_congr fun x hx => sumL_congr us _ (fun w hw => ?_) fun al ha => h al (ha.cons (hu u (by simp)) hx)
    rw [List.length_set]; exact hu w (by simp [hw])
theorem sumL_wcongr {e : List Int} {F G : List Int → Int} : ∀ (us nums : List Int), (∀ u ∈ us, 0 ≤ u ∧ u.toNat < nums.length) → (∀ al, Rch e us nums al → IntKind.i64.wrap (F al) = IntKind.i64.wrap (G al)) → IntKind.i64.wrap (sumL e us F nums) = IntKind.i64.wrap (sumL e us G nums)
  | [], nums, _, h => h nums ⟨rfl, by simp, fun _ _ => rfl⟩
  | u :: us, nums, hu, h => by
    rw [sumL, sumL]
    refine sumN_wcongr fun x hx => sumL_wcongr us _ (fun w hw => ?_) fun al ha => h al (ha.cons (hu u (by simp)) hx)
    rw [List.length_set]; exact hu w (by simp [hw])
theorem sumL_ext {e e' : List Int} {F : List Int → Int} : ∀ (us nums : List Int), (∀ u ∈ us, e.getD u.toNat 0 = e'.getD u.toNat 0) → sumL e us F nums = sumL e' us F nums
  | [], nums, _ => rfl
  | u :: us, nums, h => by
    rw [sumL, sumL, h u (by simp)]
    exact sumN_congr fun x _ => sumL_ext us _ fun w hw => h w (by simp [hw])
theorem sumL_zero {e : List Int} {F : List Int → Int} : ∀ (us nums : List Int), (∀ u ∈ us, 0 ≤ u ∧ u.toNat < nums.length) → (∀ al, Rch e us nums al → F al = 0) → sumL e us F nums = 0
  | [], nums, _, h => h nums ⟨rfl, by simp, fun _ _ => rfl⟩
  | u :: us, nums, hu, h => by
    rw [sumL]
    refine sumN_zero fun x hx => sumL_zero us _ (fun w hw => ?_) fun al ha => h al (ha.cons (hu u (by simp)) hx)
    rw [List.length_set]; exact hu w (by simp [hw])
theorem sumL_mul {e : List Int} (c : Int) (F : List Int → Int) : ∀ us nums : List Int, sumL e us (fun al => c * F al) nums = c * sumL e us F nums
  | [], nums => rfl
  | u :: us, nums => by
    rw [sumL, sumL, ← sumN_mul]
    exact sumN_congr fun x _ => sumL_mul c F us _
theorem sumL_swap {e : List Int} (F : List Int → Int) (u : Int) (n : Nat) : ∀ us nums : List Int, (∀ w ∈ us, w.toNat ≠ u.toNat) → sumL e us (fun al => sumN n fun x => F (al.set u.toNat (x : Int))) nums = sumN n fun x => sumL e us F (nums.set u.toNat (x : Int))
  | [], nums, _ => rfl
  | w :: us, nums, h => by
    simp only [sumL]
    rw [← sumN_swap]
    refine sumN_congr fun y _ => ?_
    rw [sumL_swap F u n us _ fun w hw => h w (by simp [hw])]
    refine sumN_congr fun x _ => ?_
    rw [List.set_comm _ _ (h w (by simp))]
/-- one sum after another -/
theorem sumL_split {e : List Int} (F : List Int → Int) (p q q' : Int → Bool) : ∀ us nums : List Int, us.Pairwise (fun a b => a.toNat ≠ b.toNat) → (∀ u ∈ us, p u = (q u || q' u) ∧ (q u && q' u) = false) →
    sumL e (us.filter p) F nums = sumL e (us.filter q) (fun al => sumL e (us.filter q') F al) nums
  | [], nums, _, _ => rfl
  | u :: us, nums, hd, h => by
    obtain ⟨d1, d2⟩ := List.pairwise_cons.1 hd
    obtain ⟨h1, h2⟩ := h u (by simp)
    have hr := fun w hw => h w (List.mem_cons_of_mem _ hw)
    rw [List.filter_cons, List.filter_cons, List.filter_cons]
    cases hq : q u with
    | true =>
      rw [hq] at h1 h2
      have hq' : q' u = false := by simpa using h2
      rw [hq'] at h1
      rw [if_pos (by rw [h1]; rfl), if_pos rfl, hq', if_neg (by simp), sumL, sumL]
      exact sumN_congr fun x _ => sumL_split F p q q' us _ d2 hr
    | false =>
      rw [hq] at h1
      cases hq' : q' u with
      | true =>
        rw [hq'] at h1
        rw [if_pos (by rw [h1]; rfl), if_neg (by simp), if_pos rfl, sumL]
        have := sumL_swap (e := e) (fun al => sumL e (us.filter q') F al) u (e.getD u.toNat 0).toNat (us.filter q) nums (fun w hw => (d1 w (List.mem_filter.1 hw).1).symm)
        refine Eq.trans ?_ this.symm
        exact sumN_congr fun x _ => sumL_split F p q q' us _ d2 hr
      | false =>
        rw [hq'] at h1
        rw [if_neg (by rw [h1]; simp), if_neg (by simp), if_neg (by simp)]
        exact sumL_split F p q q' us _ d2 hr
/-- numbers of some labels, taken over -/
def setL : List Int → List Int → List Int → List Int
  | [], _, nums => nums
  | u :: us, m, nums => setL us m (nums.set u.toNat (m.getD u.toNat 0))
theorem setL_len : ∀ us m nums : List Int, (setL us m nums).length = nums.length
  | [], _, _ => rfl
  | u :: us, m, nums => by rw [setL, setL_len us, List.length_set]
theorem setL_out {k : Nat} : ∀ us m nums : List Int, (∀ u ∈ us, u.toNat ≠ k) → (setL us m nums).getD k 0 = nums.getD k 0
  | [], _, _, _ => rfl
  | u :: us, m, nums, h => by rw [setL, setL_out us m _ fun w hw => h w (by simp [hw]), getD_set, if_neg (fun hh => h u (by simp) hh.1)]
theorem setL_in {k : Nat} : ∀ us m nums : List Int, k < nums.length → (∃ u ∈ us, u.toNat = k) → (setL us m nums).getD k 0 = m.getD k 0
  | [], _, _, _, h => by simp at h
  | u :: us, m, nums, hk, h => by
    rw [setL]
    by_cases hin : ∃ w ∈ us, w.toNat = k
    · exact setL_in us m _ (by simpa using hk) hin
    · rw [setL_out us m _ fun w hw hh => hin ⟨w, hw, hh⟩]
      obtain ⟨w, hw, rfl⟩ := h
      rcases List.mem_cons.1 hw with rfl | hw
      · rw [getD_set, if_pos ⟨rfl, hk⟩]
      · exact absurd ⟨w, hw, rfl⟩ hin
theorem sumL_pick {e m : List Int} {F : List Int → Int} : ∀ us nums : List Int, us.Pairwise (fun a b => a.toNat ≠ b.toNat) → (∀ u ∈ us, 0 ≤ u ∧ u.toNat < nums.length) → (∀ u ∈ us, 0 ≤ m.getD u.toNat 0 ∧ m.getD u.toNat 0 < e.getD u.toNat 0) →
    (∀ al, Rch e us nums al → (∃ u ∈ us, al.getD u.toNat 0 ≠ m.getD u.toNat 0) → F al = 0) → sumL e us F nums = F (setL us m nums)
  | [], nums, _, _, _, _ => rfl
  | u :: us, nums, hd, hu, hm, h => by
    obtain ⟨d1, d2⟩ := List.pairwise_cons.1 hd
    have hu0 := hu u (by simp)
    have hm0 := hm u (by simp)
    have hl : ∀ x : Int, ∀ w ∈ us, 0 ≤ w ∧ w.toNat < (nums.set u.toNat x).length := fun x w hw => by rw [List.length_set]; exact hu w (by simp [hw])
    have hnu : ¬ u ∈ us := fun hh => d1 u hh rfl
    rw [sumL, sumN_pick (i0 := (m.getD u.toNat 0).toNat) (by omega) (fun x hx hne => ?_)]
    · rw [show ((m.getD u.toNat 0).toNat : Int) = m.getD u.toNat 0 by omega, setL]
      refine sumL_pick us _ d2 (hl _) (fun w hw => hm w (by simp [hw])) fun al ha hex => ?_
      obtain ⟨w, hw, hne⟩ := hex
      refine h al (Rch.cons (x := (m.getD u.toNat 0).toNat) hu0 (by omega) ?_) ⟨w, by simp [hw], hne⟩
      rw [show ((m.getD u.toNat 0).toNat : Int) = m.getD u.toNat 0 by omega]; exact ha
    · refine sumL_zero us _ (hl _) fun al ha => h al (ha.cons hu0 hx) ⟨u, by simp, ?_⟩
      have := ha.out u.toNat (by rwa [Int.toNat_of_nonneg hu0.1])
      rw [getD_set, if_pos ⟨rfl, hu0.2⟩] at this
      omega
/-- a term that looks at some labels only -/
def depL (S : List Int) (F : List Int → Int) : Prop := ∀ a a', (∀ u ∈ S, a.getD u.toNat 0 = a'.getD u.toNat 0) → F a = F a'
theorem sumL_dep {e S : List Int} {F : List Int → Int} (hF : depL S F) : ∀ us nums nums' : List Int, nums.length = nums'.length → (∀ u ∈ S, ¬ u ∈ us → nums.getD u.toNat 0 = nums'.getD u.toNat 0) → (∀ u ∈ us, 0 ≤ u ∧ u.toNat < nums.length) → (∀ u ∈ S, 0 ≤ u) → sumL e us F nums = sumL e us F nums'
  | [], nums, nums', _, h, _, _ => hF _ _ fun u hu => h u hu (by simp)
  | w :: us, nums, nums', hl, h, hu, hS => by
    have hw := hu w (by simp)
    rw [sumL, sumL]
    refine sumN_congr fun x _ => sumL_dep hF us _ _ (by simp [hl]) (fun u huS hn => ?_) (fun u hu' => by rw [List.length_set]; exact hu u (by simp [hu'])) hS
    rw [getD_set, getD_set]
    have := hS u huS
    by_cases huw : w.toNat = u.toNat
    · rw [if_pos ⟨huw, by omega⟩, if_pos ⟨huw, by omega⟩]
    · rw [if_neg (fun hh => huw hh.1), if_neg (fun hh => huw hh.1)]
      exact h u huS (by rw [List.mem_cons, not_or]; exact ⟨fun hh => huw (by rw [hh]), hn⟩)

/-! ### products of values -/
def valT (x : Tsr) (r al : List Int) : Int := x.vl.getD (rankW x.sh (tkn al r) x.sh.length).toNat 0
def prodT : List Tsr → List (List Int) → List Int → Int
  | x :: l, r :: b, al => valT x r al * prodT l b al
  | _, _, _ => 1
theorem prodT_snoc (x : Tsr) (r al : List Int) : ∀ (l : List Tsr) (b : List (List Int)), l.length = b.length → prodT (l ++ [x]) (b ++ [r]) al = prodT l b al * valT x r al
  | [], [], _ => by simp [prodT]
  | y :: l, s :: b, h => by
    simp only [List.cons_append, prodT]
    rw [prodT_snoc x r al l b (by simpa using h), Int.mul_assoc]
  | [], _ :: _, h => by simp at h
  | _ :: _, [], h => by simp at h
theorem take_sT {l : List Tsr} {k : Nat} (h : k + 1 ≤ l.length) : l.take (k + 1) = l.take k ++ [l.getD k ⟨[], []⟩] := by
  rw [List.take_succ_eq_append_getElem (by omega)]; simp [show k < l.length by omega]
theorem take_sB {l : List (List Int)} {k : Nat} (h : k + 1 ≤ l.length) : l.take (k + 1) = l.take k ++ [l.getD k []] := by
  rw [List.take_succ_eq_append_getElem (by omega)]; simp [show k < l.length by omega]
theorem term_prod {l : List Tsr} {b : List (List Int)} (hb : b.length = l.length) (al : List Int) : ∀ k, k ≤ l.length → IntKind.i64.wrap (termS l b al k) = IntKind.i64.wrap (prodT (l.take k) (b.take k) al)
  | 0, _ => rfl
  | k + 1, hk => by
    rw [take_sT hk, take_sB (by omega), prodT_snoc _ _ _ _ _ (by simp; omega), termS, ww_idem, ← w_mul, term_prod hb al k (by omega), w_mul]
    rfl
theorem term_all {l : List Tsr} {b : List (List Int)} (hb : b.length = l.length) (al : List Int) : IntKind.i64.wrap (termS l b al l.length) = IntKind.i64.wrap (prodT l b al) := by
  have := term_prod hb al l.length (Nat.le_refl _)
  rwa [List.take_length, List.take_of_length_le (by omega)] at this
theorem tkn_dep {a a' r : List Int} (h : ∀ u ∈ r, a.getD u.toNat 0 = a'.getD u.toNat 0) : tkn a r = tkn a' r := by
  unfold tkn
  exact List.map_congr_left h
theorem valT_dep (x : Tsr) (r : List Int) : depL r (valT x r) := fun a a' h => by unfold valT; rw [tkn_dep h]
theorem prodT_dep : ∀ (l : List Tsr) (b : List (List Int)), depL b.flatten (prodT l b)
  | [], _, _, _, _ => rfl
  | _ :: _, [], _, _, _ => rfl
  | x :: l, r :: b, a, a', h => by
    rw [prodT, prodT, valT_dep x r a a' fun u hu => h u (by simp [hu]), prodT_dep l b a a' fun u hu => h u (by simp only [List.flatten_cons, List.mem_append]; exact .inr hu)]
theorem atR_dep {sh out a a' : List Int} (h : ∀ u ∈ out, a.getD u.toNat 0 = a'.getD u.toNat 0) : atR sh a out = atR sh a' out := by unfold atR; rw [tkn_dep h]
/-- the product of all is that of two and that of the others -/
theorem prod_rest {l : List Tsr} {b : List (List Int)} {i j : Int} (al : List Int) (hij : i ≠ j) (hi : 0 ≤ i) (hj : 0 ≤ j) (hb : b.length = l.length) : ∀ k : Nat, k ≤ l.length →
    prodT (l.take k) (b.take k) al = (if i < k then valT (l.getD i.toNat ⟨[], []⟩) (b.getD i.toNat []) al else 1) * (if j < k then valT (l.getD j.toNat ⟨[], []⟩) (b.getD j.toNat []) al else 1) * prodT (restT l i j k) (restF b i j k) al
  | 0, _ => by
    have h1 : ¬ i < ((0 : Nat) : Int) := by omega
    have h2 : ¬ j < ((0 : Nat) : Int) := by omega
    rw [if_neg h1, if_neg h2]; rfl
  | k + 1, hk => by
    have ih := prod_rest al hij hi hj hb k (by omega)
    have hT : restT l i j (k + 1) = restT l i j k ++ if (k : Int) ≠ i ∧ (k : Int) ≠ j then [l.getD k ⟨[], []⟩] else [] := rfl
    have hF : restF b i j (k + 1) = restF b i j k ++ if (k : Int) ≠ i ∧ (k : Int) ≠ j then [b.getD k []] else [] := rfl
    rw [take_sT hk, take_sB (by omega), prodT_snoc _ _ _ _ _ (by simp; omega), ih, hT, hF]
    by_cases h1 : (k : Int) = i
    · have hno : ¬ ((k : Int) ≠ i ∧ (k : Int) ≠ j) := fun h => h.1 h1
      rw [if_neg hno, if_neg hno, List.append_nil, List.append_nil]
      rw [if_neg (show ¬ i < (k : Int) by omega), if_pos (show i < ((k + 1 : Nat) : Int) by omega)]
      have hkk : k = i.toNat := by omega
      rw [hkk, Int.one_mul, ← hkk]
      have e2 : (if j < ((k + 1 : Nat) : Int) then valT (l.getD j.toNat ⟨[], []⟩) (b.getD j.toNat []) al else 1) = (if j < (k : Int) then valT (l.getD j.toNat ⟨[], []⟩) (b.getD j.toNat []) al else 1) := by
        by_cases h : j < (k : Int)
        · rw [if_pos h, if_pos (by omega)]
        · rw [if_neg h, if_neg (by omega)]
      rw [e2, Int.mul_comm, Int.mul_assoc]
    · by_cases h2 : (k : Int) = j
      · have hno : ¬ ((k : Int) ≠ i ∧ (k : Int) ≠ j) := fun h => h.2 h2
        rw [if_neg hno, if_neg hno, List.append_nil, List.append_nil]
        rw [if_neg (show ¬ j < (k : Int) by omega), if_pos (show j < ((k + 1 : Nat) : Int) by omega)]
        have hkk : k = j.toNat := by omega
        rw [hkk, Int.mul_one, ← hkk]
        have e2 : (if i < ((k + 1 : Nat) : Int) then valT (l.getD i.toNat ⟨[], []⟩) (b.getD i.toNat []) al else 1) = (if i < (k : Int) then valT (l.getD i.toNat ⟨[], []⟩) (b.getD i.toNat []) al else 1) := by
          by_cases h : i < (k : Int)
          · rw [if_pos h, if_pos (by omega)]
          · rw [if_neg h, if_neg (by omega)]
        rw [e2, Int.mul_right_comm]
      · have hyes : (k : Int) ≠ i ∧ (k : Int) ≠ j := ⟨h1, h2⟩
        rw [if_pos hyes, if_pos hyes, prodT_snoc _ _ _ _ _ (rest_len l b i j k)]
        have e1 : (if i < ((k + 1 : Nat) : Int) then valT (l.getD i.toNat ⟨[], []⟩) (b.getD i.toNat []) al else 1) = (if i < (k : Int) then valT (l.getD i.toNat ⟨[], []⟩) (b.getD i.toNat []) al else 1) := by
          by_cases h : i < (k : Int)
          · rw [if_pos h, if_pos (by omega)]
          · rw [if_neg h, if_neg (by omega)]
        have e2 : (if j < ((k + 1 : Nat) : Int) then valT (l.getD j.toNat ⟨[], []⟩) (b.getD j.toNat []) al else 1) = (if j < (k : Int) then valT (l.getD j.toNat ⟨[], []⟩) (b.getD j.toNat []) al else 1) := by
          by_cases h : j < (k : Int)
          · rw [if_pos h, if_pos (by omega)]
          · rw [if_neg h, if_neg (by omega)]
        rw [e1, e2, Int.mul_assoc]
/-- ranks tell the numbers -/
theorem rank_inj {s i i' : List Int} (hs : inE s) (hl : s.length ≤ 4) (hi : ∀ k, k < s.length → 0 ≤ i.getD k 0 ∧ i.getD k 0 < s.getD k 0) (hi' : ∀ k, k < s.length → 0 ≤ i'.getD k 0 ∧ i'.getD k 0 < s.getD k 0) :
    ∀ k, k ≤ s.length → rankW s i k = rankW s i' k → ∀ d, d < k → i.getD d 0 = i'.getD d 0
  | 0, _, _, d, hd => by omega
  | k + 1, hk, h, d, hd => by
    have step : ∀ {i : List Int}, (∀ k, k < s.length → 0 ≤ i.getD k 0 ∧ i.getD k 0 < s.getD k 0) → rankW s i (k + 1) = rankW s i k * s.getD k 0 + i.getD k 0 ∧ 0 ≤ rankW s i k := fun {i} hi => by
      obtain ⟨h1, h2⟩ := rank_lt hs hl hi k (by omega)
      obtain ⟨h3, h4⟩ := hi k (by omega)
      have hx := hs (s.getD k 0) (by simp [show k < s.length by omega])
      have hb : prE (s.take k) ≤ 777600000 := by
        have a1 := prE_le (l := s.take k) fun y hy => hs y (List.mem_of_mem_take hy)
        have a2 := pow60_le (n := (s.take k).length) (by rw [List.length_take]; omega)
        omega
      have e1 : rankW s i k * s.getD k 0 ≤ 777600000 * 60 := Int.mul_le_mul (by omega) hx.2 hx.1 (by decide)
      have e2 : 0 ≤ rankW s i k * s.getD k 0 := Int.mul_nonneg h1 hx.1
      exact ⟨by rw [rankW, wrap_in (n := rankW s i k * s.getD k 0) ⟨by omega, by omega⟩, wrap_in ⟨by omega, by omega⟩], h1⟩
    obtain ⟨a1, a2⟩ := step hi
    obtain ⟨b1, b2⟩ := step hi'
    rw [a1, b1] at h
    have c1 := hi k (by omega)
    have c2 := hi' k (by omega)
    have hq : rankW s i k = rankW s i' k ∧ i.getD k 0 = i'.getD k 0 := by
      have e := idx_inj (i := (rankW s i k).toNat) (i' := (rankW s i' k).toNat) (k := (i.getD k 0).toNat) (k' := (i'.getD k 0).toNat) (K := (s.getD k 0).toNat) (by omega) (by omega) (by
        have : (((rankW s i k).toNat * (s.getD k 0).toNat + (i.getD k 0).toNat : Nat) : Int) = (((rankW s i' k).toNat * (s.getD k 0).toNat + (i'.getD k 0).toNat : Nat) : Int) := by
          rw [Int.natCast_add, Int.natCast_add, Int.natCast_mul, Int.natCast_mul, Int.toNat_of_nonneg a2, Int.toNat_of_nonneg b2, Int.toNat_of_nonneg (by omega), Int.toNat_of_nonneg (by omega), Int.toNat_of_nonneg (by omega)]
          exact h
        exact Int.ofNat_inj.1 this)
      omega
    rcases Nat.lt_or_eq_of_le (Nat.le_of_lt_succ hd) with hd | rfl
    · exact rank_inj hs hl hi hi' k (by omega) hq.1 d hd
    · exact hq.2
end Go.Proofs.Ytfjhhbpipococaa
