/- Contracts of functions that the laws of this seat call. -/
import Derived.Test.YtgepbcakcjdmoaaFr
set_option linter.all false
namespace Go.Proofs.Ytgepbcakcjdmoaa
open Go Go.Ev Go.RowKit Go.Ev.Enc Go.Pl

def gContr3 (l : List Tsr) (b : List (List Int)) (out : List Int) : Option (Tsr × Bool) := gd (szOK l b ∧ out.length ≤ 1048576) (tsrT ((extF l b).bind (contrF l b out)))
theorem gContr3_eq {l : List Tsr} {b : List (List Int)} {out : List Int} (h : szOK l b ∧ out.length ≤ 1048576) : gContr3 l b out = some (tsrT ((extF l b).bind (contrF l b out))) := gd_eq h
theorem contrF_bad {l : List Tsr} {b : List (List Int)} {out e : List Int} (h : goodF out e = false) : contrF l b out e = none := by simp [contrF, h]
theorem goodF_neg {out e : List Int} {k : Nat} (hk : k < out.length) (h : e.getD (out.getD k 0).toNat 0 < 0) : goodF out e = false := by
  cases hg : goodF out e with
  | false => rfl
  | true =>
    obtain ⟨g1, g2, g3, g4, g5⟩ := goodF_facts hg
    have := g3 ((tkn e out).getD k 0) (gmem (by rw [tkn_len]; exact hk))
    rw [tkn_at hk] at this
    omega
theorem goodF_dup {out e : List Int} {k : Nat} (hk : k < out.length) (h : out.getD k 0 ∈ out.take k) : goodF out e = false := by
  cases hg : goodF out e with
  | false => rfl
  | true => exact absurd h ((goodF_facts hg).2.1 k hk)
theorem goodF_ok {out e : List Int} (hL : labOK out = true) (h : ∀ j, j < out.length → 0 ≤ e.getD (out.getD j 0).toNat 0 ∧ ¬ out.getD j 0 ∈ out.take j) (hu : ∀ k, e.getD k 0 ≤ 60) : goodF out e = shapeOK (tkn e out) := by
  have h1 : diffF out = true := by
    unfold diffF
    rw [decide_eq_true_eq]
    exact fun k hk => (h k hk).2
  have h2 : (tkn e out).all (fun n => inR n 0 60) = true := by
    rw [List.all_eq_true]
    intro x hx
    obtain ⟨i, hi, rfl⟩ := List.mem_iff_getElem.1 hx
    have h3 := hi
    rw [tkn_len] at h3
    have h4 := (h i h3).1
    have h5 := hu (out.getD i 0).toNat
    have h6 := tkn_at (al := e) h3
    simp only [List.getD_eq_getElem?_getD, List.getElem?_eq_getElem hi, Option.getD_some] at h6
    simp only [List.getD_eq_getElem?_getD] at h4 h5
    rw [h6]
    unfold inR
    simp only [Bool.and_eq_true, decide_eq_true_eq]
    exact ⟨h4, h5⟩
  unfold goodF
  rw [hL, h1, h2]
  rfl
theorem srt_in {b : List (List Int)} (hl : labsIn b) : ∀ x ∈ b.flatten, 0 ≤ x ∧ x < 5 := fun x hx => by
  rw [List.mem_flatten] at hx
  obtain ⟨r, hr, hx⟩ := hx
  obtain ⟨i, hi, rfl⟩ := List.mem_iff_getElem.1 hr
  have := hl i hi
  simp only [List.getD_eq_getElem?_getD, List.getElem?_eq_getElem hi, Option.getD_some] at this
  exact labOK_mem this hx
theorem srt5 {b : List (List Int)} (hl : labsIn b) : (srt b.flatten).length ≤ 5 := by
  rw [asc_labs (srt_asc b.flatten) fun x hx => srt_in hl x ((srt_mem _ x).1 hx)]
  exact Nat.le_trans (List.length_filter_le _ _) (by decide)
/-- extents of labels that no row has stay unset -/
theorem extIn_un : ∀ (z : List (Int × Int)) (o o' : List Int), extIn o z = some o' → ∀ k : Nat, (∀ p ∈ z, p.1.toNat ≠ k) → o'.getD k 0 = o.getD k 0
  | [], o, o', h => by simp [extIn] at h; subst h; intros; rfl
  | x :: r, o, o', h => by
    unfold extIn at h
    split at h
    · simp at h
    · intro k hk
      rw [extIn_un r _ o' h k fun p hp => hk p (by simp [hp]), getD_set, if_neg fun hh => hk x (by simp) hh.1]
theorem extAll_un : ∀ (z : List (Tsr × List Int)) (o o' : List Int), extAll tsrOK o z = some o' → ∀ k : Nat, (∀ p ∈ z, ∀ x ∈ p.2, x.toNat ≠ k) → o'.getD k 0 = o.getD k 0
  | [], o, o', h => by simp [extAll] at h; subst h; intros; rfl
  | x :: r, o, o', h => by
    unfold extAll at h
    split at h
    · simp only [Option.bind_eq_some_iff] at h
      obtain ⟨o1, h1, h2⟩ := h
      intro k hk
      rw [extAll_un r o1 o' h2 k fun p hp => hk p (by simp [hp]), extIn_un _ o o1 h1 k fun p hp => hk x (by simp) p.1 (List.of_mem_zip hp).1]
    · simp at h
theorem extF_un {l : List Tsr} {b : List (List Int)} {e : List Int} (h : extF l b = some e) {k : Nat} (hk : k < 5) (hm : ∀ x ∈ b.flatten, x.toNat ≠ k) : e.getD k 0 = -1 := by
  obtain ⟨h1, h2, h3, h4, h5⟩ := extF_len h
  unfold extF at h
  rw [if_pos ⟨h4, h5, h2⟩] at h
  rw [extAll_un _ _ _ h k fun p hp x hx => hm x (List.mem_flatten.2 ⟨p.2, (List.of_mem_zip hp).2, hx⟩)]
  match k, hk with
  | 0, _ => rfl
  | 1, _ => rfl
  | 2, _ => rfl
  | 3, _ => rfl
  | 4, _ => rfl
theorem flat_nn {b : List (List Int)} {e : List Int} (h : extNN e b) : ∀ x ∈ b.flatten, 0 ≤ e.getD x.toNat 0 := fun x hx => by
  rw [List.mem_flatten] at hx
  obtain ⟨r, hr, hx⟩ := hx
  obtain ⟨i, hi, rfl⟩ := List.mem_iff_getElem.1 hr
  exact h i hi x (by simp [hi]; exact hx)
theorem ext_lab {l : List Tsr} {b : List (List Int)} {e : List Int} (h : extF l b = some e) : ∀ k ∈ labs, e.getD k.toNat 0 = if b.flatten.contains k = true then e.getD k.toNat 0 else -1 := fun k hk => by
  have hk5 : 0 ≤ k ∧ k < 5 := by
    simp only [labs, List.mem_cons, List.not_mem_nil, or_false] at hk
    omega
  by_cases hc : b.flatten.contains k = true
  · rw [if_pos hc]
  · rw [if_neg hc]
    refine extF_un h (by omega) fun x hx hxk => hc (List.contains_iff_mem.2 ?_)
    have := srt_in (extF_facts h).1 x hx
    rwa [show k = x by omega]
theorem labs_ext {e : List Int} (h : e.length = 5) : labs.map (fun k => e.getD k.toNat 0) = e := by
  match e, h with
  | [a, b, c, d, f], _ => rfl
theorem cost_all {l : List Tsr} {b : List (List Int)} {e : List Int} (h : extF l b = some e) : costW e (srt b.flatten) = prodW (e.map pos1) := by
  have h1 := (extF_len h).1
  rw [cost_lab (srt_in (extF_facts h).1) (flat_nn (extF_facts h).2.1) (fun k => e.getD k.toNat 0) (ext_lab h), labs_ext h1]

/-! ### label after label, or rank after rank -/
def allV (e : List Int) : List Int → List Int → List (List Int)
  | [], nums => [nums]
  | u :: us, nums => (List.range (e.getD u.toNat 0).toNat).flatMap fun (x : Nat) => allV e us (nums.set u.toNat (x : Int))
theorem foldl_flat {α β γ : Type} (f : γ → β → γ) (g : α → List β) : ∀ (r : List α) (v : γ), (r.flatMap g).foldl f v = r.foldl (fun v x => (g x).foldl f v) v
  | [], v => rfl
  | x :: r, v => by rw [List.flatMap_cons, List.foldl_append, List.foldl_cons, foldl_flat f g r]
theorem sumV_all (l : List Tsr) (b : List (List Int)) (out sh e : List Int) : ∀ (us nums v : List Int), sumV l b out sh e us nums v = (allV e us nums).foldl (fun v al => stepS l b out sh al v) v
  | [], nums, v => rfl
  | u :: us, nums, v => by
    rw [sumV, allV, foldl_flat]
    congr 1
    funext v x
    exact sumV_all l b out sh e us _ v
theorem flat_one {α β : Type} (f : α → β) : ∀ r : List α, (r.flatMap fun x => [f x]) = r.map f
  | [] => rfl
  | x :: r => by rw [List.flatMap_cons, flat_one f r]; rfl
theorem allV_snoc (e : List Int) (w : Int) : ∀ (us nums : List Int), allV e (us ++ [w]) nums = (allV e us nums).flatMap fun n => (List.range (e.getD w.toNat 0).toNat).map fun (x : Nat) => n.set w.toNat (x : Int)
  | [], nums => by
    simp only [List.nil_append, allV, List.flatMap_cons, List.flatMap_nil, List.append_nil]
    exact flat_one _ _
  | u :: us, nums => by
    simp only [List.cons_append, allV, allV_snoc e w us, List.flatMap_assoc]
theorem allV_pos (e X : List Int) : ∀ (ls nums : List Int), ls.Pairwise (· ≠ ·) → (∀ u ∈ ls, 0 ≤ u) → (∀ u ∈ ls, nums.getD u.toNat 0 = 0) → (∀ u ∈ ls, X.contains u = true → 0 ≤ e.getD u.toNat 0) → (∀ u ∈ ls, X.contains u = false → e.getD u.toNat 0 = -1) → (∀ u ∈ ls, u.toNat < e.length) → (∀ u ∈ ls, u.toNat < nums.length) →
    allV (e.map pos1) ls nums = allV e (ls.filter fun k => X.contains k) nums
  | [], nums, _, _, _, _, _, _, _ => rfl
  | u :: us, nums, hp, hn, hz, h1, h2, h3, h4 => by
    rw [List.pairwise_cons] at hp
    have e1 : (e.map pos1).getD u.toNat 0 = pos1 (e.getD u.toNat 0) := by simp [h3 u (by simp)]
    have hrec : ∀ x : Int, allV (e.map pos1) us (nums.set u.toNat x) = allV e (us.filter fun k => X.contains k) (nums.set u.toNat x) := fun x =>
      allV_pos e X us _ hp.2 (fun w hw => hn w (by simp [hw])) (fun w hw => by
        rw [getD_set, if_neg]
        · exact hz w (by simp [hw])
        · intro hh
          have a1 := hn u (by simp)
          have a2 := hn w (by simp [hw])
          exact hp.1 w hw (by omega)) (fun w hw => h1 w (by simp [hw])) (fun w hw => h2 w (by simp [hw])) (fun w hw => h3 w (by simp [hw])) (fun w hw => by rw [List.length_set]; exact h4 w (by simp [hw]))
    cases hc : X.contains u with
    | true =>
      have hx := h1 u (by simp) hc
      rw [List.filter_cons_of_pos (by exact hc), allV, allV, e1, pos1, if_neg (by omega)]
      congr 1
      funext x
      exact hrec x
    | false =>
      rw [List.filter_cons_of_neg (by rw [hc]; exact Bool.false_ne_true), allV, e1, h2 u (by simp) hc]
      have hs : nums.set u.toNat (0 : Int) = nums := by
        refine ints_ext (by simp) fun i hi => ?_
        rw [getD_set]
        split
        · rename_i hh
          rw [← hh.1, hz u (by simp)]
        · rfl
      have := hrec 0
      rw [hs] at this
      show List.flatMap _ (List.range 1) = _
      rw [List.range_one, List.flatMap_cons, List.flatMap_nil, List.append_nil, ← this]
      show allV _ us (nums.set u.toNat (0 : Int)) = _
      rw [hs]
theorem range_mul (P d : Nat) : List.range (P * d) = (List.range P).flatMap fun q => (List.range d).map fun r => q * d + r := by
  induction P with
  | zero => simp
  | succ P ih => rw [Nat.succ_mul, List.range_add, ih, List.range_succ, List.flatMap_append, List.flatMap_cons, List.flatMap_nil, List.append_nil]
theorem unrF_snoc (s : List Int) (d k : Int) : unrF (s ++ [d]) k = unrF s (k.tdiv d) ++ [k.tmod d] := by
  unfold unrF
  rw [List.reverse_append, List.reverse_singleton, List.singleton_append, unrR, List.reverse_cons]
theorem unrF_qr (s : List Int) (d q r : Nat) (h : r < d) : unrF (s ++ [(d : Int)]) ((q * d + r : Nat) : Int) = unrF s q ++ [(r : Int)] := by
  rw [unrF_snoc, ← Int.ofNat_tdiv, ← Int.ofNat_tmod]
  have h1 : (q * d + r) / d = q := by rw [Nat.mul_comm, Nat.mul_add_div (by omega), Nat.div_eq_of_lt h, Nat.add_zero]
  have h2 : (q * d + r) % d = r := by rw [Nat.mul_comm, Nat.mul_add_mod, Nat.mod_eq_of_lt h]
  rw [h1, h2]
theorem prE_nn0 : ∀ {l : List Int}, (∀ x ∈ l, 0 ≤ x) → 0 ≤ prE l
  | [], _ => by decide
  | x :: r, h => Int.mul_nonneg (h x (by simp)) (prE_nn0 fun y hy => h y (by simp [hy]))
/-- the first m numbers run -/
theorem allV_unr {s : List Int} (hs : ∀ x ∈ s, 0 ≤ x) (us : List Int) : ∀ m, m ≤ s.length → us.length = s.length → (∀ i, i < us.length → us.getD i 0 = (i : Nat)) →
    allV s (us.take m) (List.replicate s.length 0) = (List.range (prE (s.take m)).toNat).map fun (k : Nat) => unrF (s.take m) k ++ List.replicate (s.length - m) 0
  | 0, hm, hl, hu => by
    simp only [List.take_zero, allV, prE, Nat.sub_zero]
    rfl
  | m + 1, hm, hl, hu => by
    have hx := hs (s.getD m 0) (gmem (by omega))
    have hum := hu m (by omega)
    rw [take_succ_getD (l := us) (by omega), hum, allV_snoc, allV_unr hs us m (by omega) hl hu, take_succ_getD (l := s) (by omega), prE_snoc]
    obtain ⟨d, hd⟩ : ∃ d : Nat, s.getD m 0 = d := ⟨(s.getD m 0).toNat, by omega⟩
    have hp : 0 ≤ prE (s.take m) := prE_nn0 fun x hx => hs x (List.mem_of_mem_take hx)
    obtain ⟨P, hP⟩ : ∃ P : Nat, prE (s.take m) = P := ⟨(prE (s.take m)).toNat, by omega⟩
    rw [hd, hP]
    have e1 : ((P : Int) * (d : Int)).toNat = P * d := by rw [← Int.natCast_mul]; rfl
    rw [e1, range_mul, List.map_flatMap, List.flatMap_map]
    have e2 : ((m : Nat) : Int).toNat = m := rfl
    have e3 : s.getD m 0 = d := hd
    simp only [Int.toNat_natCast]
    congr 1
    funext q
    rw [hd]
    simp only [Int.toNat_natCast, List.map_map]
    refine List.map_congr_left fun r hr => ?_
    have hr := List.mem_range.1 hr
    simp only [Function.comp]
    rw [unrF_qr _ _ _ _ hr]
    have hlen : (unrF (s.take m) q).length = m := by rw [unrF_len, List.length_take]; omega
    rw [List.set_append_right _ _ (by omega), hlen, Nat.sub_self, show s.length - m = (s.length - (m + 1)) + 1 by omega, List.replicate_succ, List.set_cons_zero]
    simp
theorem contrV_fold (l : List Tsr) (b : List (List Int)) (out sh s5 : List Int) : ∀ N, contrV l b out sh s5 N = ((List.range N).map fun (k : Nat) => unrF s5 k).foldl (fun v al => stepS l b out sh al v) (List.replicate (prodW sh).toNat 0)
  | 0 => rfl
  | N + 1 => by rw [contrV, contrV_fold l b out sh s5 N, List.range_succ, List.map_append, List.foldl_append]; rfl
theorem rep_getD (n k : Nat) : (List.replicate n (0 : Int)).getD k 0 = 0 := by
  rw [List.getD_eq_getElem?_getD, List.getElem?_replicate]
  split <;> rfl
theorem sum_contr {l : List Tsr} {b : List (List Int)} {out sh e : List Int} (h : extF l b = some e) : sumV l b out sh e (srt b.flatten) (List.replicate 5 0) (List.replicate (prodW sh).toNat 0) = contrV l b out sh (e.map pos1) (prodW (e.map pos1)).toNat := by
  have hx := extOK_of h
  have hel := hx.len
  have hf := extF_facts h
  have h1 : srt b.flatten = labs.filter fun k => b.flatten.contains k := by
    rw [asc_labs (srt_asc b.flatten) (fun x hx => srt_in hf.1 x ((srt_mem _ x).1 hx))]
    congr 1
    funext k
    rw [Bool.eq_iff_iff, List.contains_iff_mem, List.contains_iff_mem, srt_mem]
  have hlab : ∀ u ∈ labs, 0 ≤ u ∧ u < 5 := fun u hu => by
    simp only [labs, List.mem_cons, List.not_mem_nil, or_false] at hu
    omega
  have h2 := allV_pos e b.flatten labs (List.replicate 5 0) (by simp [labs]) (fun u hu => (hlab u hu).1) (fun u hu => rep_getD 5 u.toNat)
    (fun u hu hc => flat_nn hf.2.1 u (List.contains_iff_mem.1 hc))
    (fun u hu hc => by
      have := ext_lab h u hu
      rw [hc] at this
      exact this)
    (fun u hu => by have := hlab u hu; omega) (fun u hu => by have := hlab u hu; rw [List.length_replicate]; omega)
  have hml : (e.map pos1).length = 5 := by simp [hel]
  have hp := pos1_in hx.ub
  have h3 := allV_unr (s := e.map pos1) (fun x hx => (hp x hx).1) labs 5 (by omega) (by rw [hml]; rfl) (fun i hi => by
    match i, hi with
    | 0, _ => rfl
    | 1, _ => rfl
    | 2, _ => rfl
    | 3, _ => rfl
    | 4, _ => rfl)
  rw [List.take_of_length_le (l := e.map pos1) (by omega), hml] at h3
  have h4 : labs.take 5 = labs := rfl
  rw [h4, h2, ← h1] at h3
  rw [sumV_all, h3, contrV_fold, prodW_eq hp (by omega)]
  simp
end Go.Proofs.Ytgepbcakcjdmoaa
