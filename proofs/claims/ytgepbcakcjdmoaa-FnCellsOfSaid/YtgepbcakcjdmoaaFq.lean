/- Contracts of functions that the laws of this seat call. -/
import Derived.Test.YtgepbcakcjdmoaaFp
set_option linter.all false
namespace Go.Proofs.Ytgepbcakcjdmoaa
open Go Go.Ev Go.RowKit Go.Ev.Enc Go.Pl

theorem gmem {l : List Int} {d : Nat} (h : d < l.length) : l.getD d 0 ∈ l := by simp [h]
/-- exact products -/
def prE : List Int → Int
  | [] => 1
  | x :: r => x * prE r
def inE (l : List Int) : Prop := ∀ x ∈ l, 0 ≤ x ∧ x ≤ 60
theorem prE_nn : ∀ {l : List Int}, inE l → 0 ≤ prE l
  | [], _ => by decide
  | x :: r, h => Int.mul_nonneg (h x (by simp)).1 (prE_nn fun y hy => h y (by simp [hy]))
theorem prE_le : ∀ {l : List Int}, inE l → prE l ≤ 60 ^ l.length
  | [], _ => by decide
  | x :: r, h => by
    have h1 := prE_le (l := r) fun y hy => h y (by simp [hy])
    have h2 := prE_nn (l := r) fun y hy => h y (by simp [hy])
    have h3 := h x (by simp)
    rw [prE, List.length_cons, Int.pow_succ, Int.mul_comm (60 ^ r.length)]
    exact Int.mul_le_mul h3.2 h1 h2 (by decide)
theorem pow60_le {n : Nat} (h : n ≤ 5) : (60 : Int) ^ n ≤ 777600000 := by
  match n, h with
  | 0, _ => decide
  | 1, _ => decide
  | 2, _ => decide
  | 3, _ => decide
  | 4, _ => decide
  | 5, _ => decide
theorem foldW (r : List Int) : ∀ a : Int, inE r → 0 ≤ a → (∀ k, k ≤ r.length → a * prE (r.take k) ≤ 9223372036854775807) → r.foldl (fun n e => IntKind.i64.wrap (n * e)) a = a * prE r := by
  induction r with
  | nil => intro a _ _ _; simp [prE]
  | cons x r ih =>
    intro a h ha hk
    have hx := h x (by simp)
    have h1 := hk 1 (by simp)
    have e1 : prE ((x :: r).take 1) = x := by simp [prE]
    rw [e1] at h1
    rw [List.foldl_cons, wrap_in ⟨by have := Int.mul_nonneg ha hx.1; omega, h1⟩, ih _ (fun y hy => h y (by simp [hy])) (Int.mul_nonneg ha hx.1), prE, Int.mul_assoc]
    intro k hkr
    have h2 := hk (k + 1) (by simpa using hkr)
    rw [List.take_succ_cons, prE] at h2
    rw [Int.mul_assoc]; exact h2
theorem prodW_eq {l : List Int} (h : inE l) (hl : l.length ≤ 5) : prodW l = prE l := by
  unfold prodW
  rw [foldW l 1 h (by decide) (fun k hk => ?_), Int.one_mul]
  have h1 := prE_le (l := l.take k) fun y hy => h y (List.mem_of_mem_take hy)
  have h2 := pow60_le (n := (l.take k).length) (by rw [List.length_take]; omega)
  omega
theorem prE_pos : ∀ {l : List Int}, inE l → 0 < prE l → ∀ x ∈ l, 1 ≤ x
  | [], _, _, x, hx => by simp at hx
  | y :: r, h, hp, x, hx => by
    have hy := h y (by simp)
    have hr := prE_nn (l := r) fun z hz => h z (by simp [hz])
    rw [prE] at hp
    have hy0 : y ≠ 0 := fun e => by rw [e, Int.zero_mul] at hp; omega
    have hr0 : prE r ≠ 0 := fun e => by rw [e, Int.mul_zero] at hp; omega
    rcases List.mem_cons.1 hx with rfl | hx
    · omega
    · exact prE_pos (fun z hz => h z (by simp [hz])) (by omega) x hx
theorem prE_snoc : ∀ (l : List Int) (x : Int), prE (l ++ [x]) = prE l * x
  | [], x => by simp [prE]
  | y :: r, x => by rw [List.cons_append, prE, prE, prE_snoc r x, Int.mul_assoc]

/-- ranks stay below the product -/
theorem rank_lt {s i : List Int} (hs : inE s) (hl : s.length ≤ 4) (hi : ∀ k, k < s.length → 0 ≤ i.getD k 0 ∧ i.getD k 0 < s.getD k 0) :
    ∀ k, k ≤ s.length → 0 ≤ rankW s i k ∧ rankW s i k < prE (s.take k)
  | 0, _ => by simp [rankW, prE]
  | k + 1, hk => by
    obtain ⟨h1, h2⟩ := rank_lt hs hl hi k (by omega)
    obtain ⟨h3, h4⟩ := hi k (by omega)
    have hx := hs (s.getD k 0) (by simp [show k < s.length by omega])
    have hb : prE (s.take k) ≤ 777600000 := by
      have a1 := prE_le (l := s.take k) fun y hy => hs y (List.mem_of_mem_take hy)
      have a2 := pow60_le (n := (s.take k).length) (by rw [List.length_take]; omega)
      omega
    have e1 : rankW s i k * s.getD k 0 ≤ (prE (s.take k) - 1) * s.getD k 0 := Int.mul_le_mul_of_nonneg_right (by omega) hx.1
    have e2 : 0 ≤ rankW s i k * s.getD k 0 := Int.mul_nonneg h1 hx.1
    have e3 : (prE (s.take k) - 1) * s.getD k 0 = prE (s.take k) * s.getD k 0 - s.getD k 0 := by rw [Int.sub_mul, Int.one_mul]
    have e4 : prE (s.take k) * s.getD k 0 ≤ 777600000 * 60 := Int.mul_le_mul hb hx.2 hx.1 (by decide)
    have e5 : prE (s.take (k + 1)) = prE (s.take k) * s.getD k 0 := by rw [take_succ_getD (by omega), prE_snoc]
    rw [e5, rankW, wrap_in (n := rankW s i k * s.getD k 0) ⟨by omega, by omega⟩, wrap_in ⟨by omega, by omega⟩]
    omega

/-- the extents are the dimensions' -/
theorem extIn_keep : ∀ (z : List (Int × Int)) (o o' : List Int), o.length = 5 → (∀ p ∈ z, (0 ≤ p.1 ∧ p.1 ≤ 4) ∧ 0 ≤ p.2) → extIn o z = some o' →
    (∀ (k : Nat) (v : Int), 0 ≤ v → o.getD k 0 = v → o'.getD k 0 = v) ∧ (∀ p ∈ z, o'.getD p.1.toNat 0 = p.2)
  | [], o, o', _, _, h => by simp [extIn] at h; subst h; simp
  | x :: r, o, o', ho, hz, h => by
    unfold extIn at h
    split at h
    · simp at h
    · rename_i hc
      obtain ⟨⟨x1, x2⟩, x3⟩ := hz x (by simp)
      obtain ⟨g1, g2⟩ := extIn_keep r _ o' (by simp [ho]) (fun p hp => hz p (by simp [hp])) h
      have hs : (o.set x.1.toNat x.2).getD x.1.toNat 0 = x.2 := by rw [getD_set, if_pos ⟨rfl, by omega⟩]
      refine ⟨fun k v hv hk => g1 k v hv ?_, fun p hp => ?_⟩
      · rw [getD_set]
        split
        · rename_i hkx
          obtain ⟨rfl, _⟩ := hkx
          have : ¬ o.getD x.1.toNat 0 ≠ x.2 := fun hne => hc ⟨by omega, hne⟩
          omega
        · exact hk
      · rcases List.mem_cons.1 hp with rfl | hp
        · exact g1 _ _ x3 hs
        · exact g2 p hp
theorem extIn_ub : ∀ (z : List (Int × Int)) (o o' : List Int), (∀ p ∈ z, p.2 ≤ 60) → (∀ k, o.getD k 0 ≤ 60) → extIn o z = some o' → ∀ k, o'.getD k 0 ≤ 60
  | [], o, o', _, ho, h => by simp [extIn] at h; subst h; exact ho
  | x :: r, o, o', hz, ho, h => by
    unfold extIn at h
    split at h
    · simp at h
    · refine extIn_ub r _ o' (fun p hp => hz p (by simp [hp])) (fun k => ?_) h
      rw [getD_set]
      split
      · exact hz x (by simp)
      · exact ho k
theorem extAll_keep : ∀ (z : List (Tsr × List Int)) (o o' : List Int), o.length = 5 → (∀ k, o.getD k 0 ≤ 60) → extAll tsrOK o z = some o' →
    (∀ (k : Nat) (v : Int), 0 ≤ v → o.getD k 0 = v → o'.getD k 0 = v) ∧ (∀ k, o'.getD k 0 ≤ 60) ∧ ∀ x ∈ z, (tsrOK x.1 = true ∧ x.2.length = x.1.sh.length) ∧ ∀ d, d < x.2.length → o'.getD (x.2.getD d 0).toNat 0 = x.1.sh.getD d 0
  | [], o, o', _, hu, h => by
    simp [extAll] at h; subst h
    exact ⟨fun _ _ _ h => h, hu, fun x hx => by simp at hx⟩
  | x :: r, o, o', ho, hu, h => by
    unfold extAll at h
    split at h
    · rename_i hc
      simp only [Option.bind_eq_some_iff] at h
      obtain ⟨o1, h1, h2⟩ := h
      have hd := tsrOK_dims hc.1
      have hz : ∀ p ∈ x.2.zip x.1.sh, (0 ≤ p.1 ∧ p.1 ≤ 4) ∧ 0 ≤ p.2 := fun p hp => by
        have hm := List.of_mem_zip hp
        have := labOK_mem hc.2.2 hm.1
        exact ⟨⟨this.1, by omega⟩, (hd.2 _ hm.2).1⟩
      obtain ⟨a1, a2⟩ := extIn_keep _ o o1 ho hz h1
      have au := extIn_ub _ o o1 (fun p hp => (hd.2 _ (List.of_mem_zip hp).2).2) hu h1
      obtain ⟨b1, b2, b3⟩ := extAll_keep r o1 o' (by rw [extIn_len _ _ _ h1, ho]) au h2
      refine ⟨fun k v hv hk => b1 k v hv (a1 k v hv hk), b2, fun y hy => ?_⟩
      rcases List.mem_cons.1 hy with rfl | hy
      · refine ⟨⟨hc.1, hc.2.1⟩, fun d hd' => ?_⟩
        have hds : d < y.1.sh.length := by omega
        have hm : (y.2.getD d 0, y.1.sh.getD d 0) ∈ y.2.zip y.1.sh := by
          rw [List.mem_iff_getElem]
          exact ⟨d, by rw [List.length_zip]; omega, by simp [hd', hds]⟩
        exact b1 _ _ (hz _ hm).2 (a2 _ hm)
      · exact b3 y hy
    · simp at h
/-- all that a contraction asks of extents -/
structure ExtOK (l : List Tsr) (b : List (List Int)) (e : List Int) : Prop where
  len : e.length = 5
  bl : b.length = l.length
  l1 : 1 ≤ l.length
  l3 : l.length ≤ 3
  lab : labsIn b
  row : ∀ k, k < b.length → (b.getD k []).length = (l.getD k ⟨[], []⟩).sh.length
  tsr : ∀ k, k < l.length → tsrOK (l.getD k ⟨[], []⟩) = true
  ext : ∀ k, k < b.length → ∀ d, d < (b.getD k []).length → e.getD ((b.getD k []).getD d 0).toNat 0 = (l.getD k ⟨[], []⟩).sh.getD d 0
  ub : ∀ k, e.getD k 0 ≤ 60
theorem extOK_of {l : List Tsr} {b : List (List Int)} {e : List Int} (h : extF l b = some e) : ExtOK l b e := by
  obtain ⟨h1, h2, h3, h4, h5⟩ := extF_len h
  obtain ⟨f1, f2, f3⟩ := extF_facts h
  unfold extF at h
  rw [if_pos ⟨h4, h5, h2⟩] at h
  obtain ⟨_, g2, g3⟩ := extAll_keep _ _ _ rfl (by intro k; match k with | 0 => decide | 1 => decide | 2 => decide | 3 => decide | 4 => decide | k + 5 => simp) h
  have hm : ∀ k, k < b.length → (l.getD k ⟨[], []⟩, b.getD k []) ∈ l.zip b := fun k hk => by
    rw [List.mem_iff_getElem]
    exact ⟨k, by rw [List.length_zip]; omega, by simp [hk, show k < l.length by omega]⟩
  exact ⟨h1, h2, h4, h5, f1, fun k hk => (g3 _ (hm k hk)).1.2, fun k hk => (g3 _ (hm k (by omega))).1.1, fun k hk => (g3 _ (hm k hk)).2, g2⟩

theorem pos1_in {e : List Int} (hu : ∀ k, e.getD k 0 ≤ 60) : inE (e.map pos1) := fun x hx => by
  obtain ⟨y, hy, rfl⟩ := List.mem_map.1 hx
  obtain ⟨i, hi, rfl⟩ := List.mem_iff_getElem.1 hy
  have := hu i
  simp only [List.getD_eq_getElem?_getD, List.getElem?_eq_getElem hi, Option.getD_some] at this
  unfold pos1
  split <;> omega
theorem unrF_bd {s : List Int} (hs : ∀ i, i < s.length → 1 ≤ s.getD i 0) {k : Int} (hk : 0 ≤ k) {m : Nat} (hm : m < s.length) : 0 ≤ (unrF s k).getD m 0 ∧ (unrF s k).getD m 0 < s.getD m 0 := by
  rw [unrF_at hm]
  have h1 : ∀ d ∈ s.reverse.take (s.length - (m + 1)), 1 ≤ d := fun d hd => by
    have := List.mem_of_mem_take hd
    rw [List.mem_reverse] at this
    obtain ⟨i, hi, rfl⟩ := List.mem_iff_getElem.1 this
    have := hs i hi
    simpa [hi] using this
  have h2 := (divR_nn _ k h1 hk).1
  have h3 := hs m hm
  exact ⟨Int.tmod_nonneg _ h2, by have := Int.tmod_lt_of_pos (divR (s.reverse.take (s.length - (m + 1))) k) (show 0 < s.getD m 0 by omega); exact this⟩
theorem tkn_at {al r : List Int} {d : Nat} (h : d < r.length) : (tkn al r).getD d 0 = al.getD (r.getD d 0).toNat 0 := by simp [tkn, h]
/-- numbers of labels within their extents -/
def inLab (e al : List Int) : Prop := ∀ i, i < 5 → 0 ≤ e.getD i 0 → 0 ≤ al.getD i 0 ∧ al.getD i 0 < e.getD i 0
theorem goodF_facts {out e : List Int} (h : goodF out e = true) : labOK out = true ∧ (∀ k, k < out.length → ¬ out.getD k 0 ∈ out.take k) ∧ inE (tkn e out) ∧ (tkn e out).length ≤ 4 ∧ prodW (tkn e out) ≤ 60 := by
  unfold goodF diffF shapeOK at h
  simp only [Bool.and_eq_true, decide_eq_true_eq, List.all_eq_true] at h
  refine ⟨h.1.1.1, h.1.1.2, fun x hx => inR_t (h.1.2 x hx), h.2.1.1, h.2.2⟩
theorem tsr_facts {x : Tsr} (h : tsrOK x = true) : inE x.sh ∧ x.sh.length ≤ 4 ∧ (x.vl.length : Int) = prE x.sh := by
  have h1 := tsrOK_dims h
  unfold tsrOK at h
  simp only [Bool.and_eq_true, decide_eq_true_eq] at h
  have : inE x.sh := h1.2
  exact ⟨this, h1.1, by rw [h.1.2, prodW_eq this (by omega)]⟩
theorem row_rank {l : List Tsr} {b : List (List Int)} {e al : List Int} (hx : ExtOK l b e) (ha : inLab e al) {k : Nat} (hk : k < l.length) :
    (∀ d, d < (l.getD k ⟨[], []⟩).sh.length → 0 ≤ (tkn al (b.getD k [])).getD d 0 ∧ (tkn al (b.getD k [])).getD d 0 < (l.getD k ⟨[], []⟩).sh.getD d 0) := fun d hd => by
  have hkb : k < b.length := by rw [hx.bl]; exact hk
  have hr := hx.row k hkb
  have hdr : d < (b.getD k []).length := by omega
  rw [tkn_at hdr]
  have hl := labOK_at (hx.lab k hkb) hdr
  have he := hx.ext k hkb d hdr
  have ht := (tsr_facts (hx.tsr k hk)).1 ((l.getD k ⟨[], []⟩).sh.getD d 0) (gmem hd)
  have := ha ((b.getD k []).getD d 0).toNat (by omega) (by omega)
  omega
theorem out_rank {out e al : List Int} (hg : goodF out e = true) (ha : inLab e al) : ∀ d, d < (tkn e out).length → 0 ≤ (tkn al out).getD d 0 ∧ (tkn al out).getD d 0 < (tkn e out).getD d 0 := fun d hd => by
  obtain ⟨g1, g2, g3, g4, g5⟩ := goodF_facts hg
  rw [tkn_len] at hd
  rw [tkn_at hd, tkn_at hd]
  have hl := labOK_at g1 hd
  have hm : e.getD (out.getD d 0).toNat 0 ∈ tkn e out := by
    unfold tkn
    rw [List.mem_map]
    exact ⟨out.getD d 0, by simp [hd], rfl⟩
  exact ha _ (by omega) (g3 _ hm).1
theorem okAt_of {l : List Tsr} {b : List (List Int)} {out e al : List Int} (hx : ExtOK l b e) (hg : goodF out e = true) (ha : inLab e al) : okAt l b out (tkn e out) al := by
  obtain ⟨g1, g2, g3, g4, g5⟩ := goodF_facts hg
  refine ⟨fun k hk => ?_, ?_⟩
  · have hkb : k < b.length := by rw [hx.bl]; exact hk
    have hr := hx.row k hkb
    obtain ⟨t1, t2, t3⟩ := tsr_facts (hx.tsr k hk)
    have := rank_lt t1 t2 (row_rank hx ha hk) _ (Nat.le_refl _)
    rw [List.take_length, ← t3] at this
    exact ⟨by omega, this⟩
  · have := rank_lt g3 g4 (out_rank hg ha) _ (Nat.le_refl _)
    rw [List.take_length, ← prodW_eq g3 (by omega)] at this
    exact ⟨this.1, by omega⟩
theorem unr_inLab {e : List Int} (hl : e.length = 5) (h1 : ∀ i, i < 5 → 1 ≤ (e.map pos1).getD i 0) {k : Int} (hk : 0 ≤ k) : inLab e (unrF (e.map pos1) k) := fun i hi he => by
  have hml : (e.map pos1).length = 5 := by simp [hl]
  have := unrF_bd (s := e.map pos1) (fun i hi => h1 i (by omega)) hk (m := i) (by omega)
  have e1 : (e.map pos1).getD i 0 = e.getD i 0 := by
    have : (e.map pos1).getD i 0 = pos1 (e.getD i 0) := by simp [show i < e.length by omega]
    rw [this, pos1, if_neg (by omega)]
  rw [e1] at this
  exact this
theorem contrB_of {l : List Tsr} {b : List (List Int)} {out e : List Int} (hx : ExtOK l b e) (hs : szOK l b) (ho : out.length < 4294967296) (hg : goodF out e = true) (hn : prodW (e.map pos1) ≤ 4000) : contrB l b out e := by
  obtain ⟨g1, g2, g3, g4, g5⟩ := goodF_facts hg
  have hp := pos1_in hx.ub
  have hml : (e.map pos1).length = 5 := by simp [hx.len]
  have e1 := prodW_eq g3 (by omega)
  have e2 := prodW_eq hp (by omega)
  have n1 := prE_nn g3
  have n2 := prE_nn hp
  refine ⟨⟨hs, hx.bl, ho, hx.len⟩, hx.lab, g1, ⟨by omega, by omega⟩, ⟨by omega, by omega⟩, fun h0 => ?_⟩
  have h1 : ∀ i, i < 5 → 1 ≤ (e.map pos1).getD i 0 := fun i hi => prE_pos hp (by omega) _ (by
    rw [List.getD_eq_getElem?_getD, List.getElem?_eq_getElem (by omega)]; exact List.getElem_mem _)
  exact ⟨h1, fun k _ => okAt_of hx hg (unr_inLab hx.len h1 (by omega))⟩
theorem contr_len {l : List Tsr} {b : List (List Int)} {out e : List Int} {t : Tsr} (h : contrF l b out e = some t) : t.sh.length ≤ 4 ∧ t.vl.length ≤ 60 := by
  unfold contrF at h
  split at h
  · rename_i hc
    obtain ⟨g1, g2, g3, g4, g5⟩ := goodF_facts hc.1
    have := Option.some.inj h
    subst this
    exact ⟨g4, by rw [contrV_len]; omega⟩
  · simp at h

def tsrR (t : Option Tsr) : Tsr × Bool :=
  match t with
  | none => (⟨[], []⟩, false)
  | some t => (t, tsrOK t)
def gContr2 (l : List Tsr) (b : List (List Int)) (out : List Int) : Option (Tsr × Bool) := gd ((szOK l b ∧ out.length < 4294967296) ∧ tsrsOK l b = true) (tsrR ((extF l b).bind (contrF l b out)))
theorem gContr2_eq {l : List Tsr} {b : List (List Int)} {out : List Int} (h : (szOK l b ∧ out.length < 4294967296) ∧ tsrsOK l b = true) : gContr2 l b out = some (tsrR ((extF l b).bind (contrF l b out))) := gd_eq h
def tsrT (t : Option Tsr) : Tsr × Bool :=
  match t with
  | none => (⟨[], []⟩, false)
  | some t => if tsrOK t = true then (t, true) else (⟨[], []⟩, false)
def gContr (l : List Tsr) (b : List (List Int)) (out : List Int) : Option (Tsr × Bool) := gd (szOK l b ∧ out.length ≤ 1048576) (tsrT ((extF l b).bind (contrF l b out)))
theorem gContr_eq {l : List Tsr} {b : List (List Int)} {out : List Int} (h : szOK l b ∧ out.length ≤ 1048576) : gContr l b out = some (tsrT ((extF l b).bind (contrF l b out))) := gd_eq h
theorem extF_bad {l : List Tsr} {b : List (List Int)} (h : tsrsOK l b = false) : extF l b = none := by rw [extF_eq, h]; rfl
end Go.Proofs.Ytgepbcakcjdmoaa
