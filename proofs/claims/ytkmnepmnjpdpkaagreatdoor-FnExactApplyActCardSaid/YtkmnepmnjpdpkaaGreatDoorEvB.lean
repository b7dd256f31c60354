/- Calls by contract, regions in any order, loops, and the conditions that an evaluation leaves. -/
import Derived.Test.YtkmnepmnjpdpkaaGreatDoorEvA
import Derived.Deep.LoopGhost
set_option linter.all false
namespace Go.Ev
open Go Go.RowKit
variable [Gl] [Lit]

variable {P : Program}

def NoAgg (f : AV → AV) : Prop := ∀ x, ∀ l, f x ≠ .agg l
theorem NoAgg.cells {f : AV → AV} (h : NoAgg f) (x : AV) : (expE f x).cells = x.cells.map f := by
  by_cases ha : ∃ l, x = .agg l
  · obtain ⟨l, rfl⟩ := ha; rfl
  · have h1 : x.cells = [x] := by cases x <;> simp_all [AV.cells]
    have h2 : expE f x = f x := by cases x <;> simp_all [expE]
    rw [h1, h2]
    have := h x
    cases hf : f x <;> simp_all [AV.cells]

theorem stepC_noAgg (t : Nat) (L : List Blk) (f : AV → AV) : NoAgg (stepC t L f) := by
  intro x l
  unfold stepC
  split <;> (try split) <;> (try split) <;> simp

theorem map_getD (f : AV → AV) (l : List AV) (i : Nat) (h : i < l.length) : (l.map f).getD i .any = f (l.getD i .any) := by
  simp [h]

section
variable {V : Vw} {L : List Blk} {w : World} (hr : Rel V L w) (t : Nat) (ht : t ≤ 1) {I' J' : Nat → Prop} {rf' : Nat → Option E}
  (hI : ∀ x, V.I x → I' x ∨ J' x) (hJ : ∀ x, V.J x → I' x ∨ J' x) (hm : ∀ (b : Nat) (e : Nat × Nat × Nat), V.m[b]? = some e → I' e.1 ∨ J' e.1)
  {L0 : List Blk} (hsub : ∀ (b : Nat) (k : Blk), L0[b]? = some k → L[b]? = some k)
  (hJ1 : t = 1 → ∀ x, V.J x → J' x) (hm1 : t = 1 → ∀ (b : Nat) (e : Nat × Nat × Nat), V.m[b]? = some e → J' e.1)
include hr ht hI hJ hm hsub hJ1 hm1

theorem stepC_sound {f : AV → AV} (hf : ∀ x v, R V.I V.J (rfOf V.m L) w x v → R I' J' rf' w (f x) v) (hn : NoAgg f) (x : AV) (v : Value)
    (h : R V.I V.J (rfOf V.m L) w x v) : R I' J' rf' w (stepC t L0 f x) v := by
  unfold stepC
  split
  · rename_i b ver off len cap
    split
    · rename_i k hk0
      have hk := hsub _ _ hk0
      split
      · rename_i hc
        obtain ⟨hv, hle⟩ := hc
        obtain ⟨xm, hx, _⟩ := hr.entry hk
        obtain ⟨a, cap', rfl, c1, c2, c3, c4, c5⟩ := h.sl_inv hk hx hv
        have hnl : ((k.l.drop off).take len).length = len := by simp; omega
        by_cases h0 : len = 0
        · subst h0
          simp only [List.take_zero, List.map_nil]
          exact .ds0 _ _ _ (by omega)
        · obtain ⟨c, ty, d1, d2, d3, d4, d5⟩ := hr.blk b k xm hk hx
          rw [c3 (by omega)]
          have hg : ∀ i, i < len → ((k.l.drop off).take len).getD i .any = k.l.getD (off + i) .any := fun i hi => by
            simp only [List.getD_eq_getElem?_getD, List.getElem?_take, hi, if_true, List.getElem?_drop]
          have hmul : (off + len) * k.esz ≤ k.l.length * k.esz := Nat.mul_le_mul_right _ (by omega)
          rw [Nat.add_mul] at hmul
          have hlen2 : (((k.l.drop off).take len).map (expE f)).length = len := by rw [List.length_map]; exact hnl
          have := R.ds (I := I') (J := J') (rf := rf') (w := w) t (((k.l.drop off).take len).map (expE f)) xm.1 (xm.2.1 + off * k.esz) cap' k.esz (fun p => c.getD (xm.2.1 + off * k.esz + p) undef)
            (fun h => hm1 (by omega) b xm hx) (hm b xm hx) (fun h => by rw [h] at hlen2; simp at hlen2; omega)
            (fun i hi => by
              rw [hlen2] at hi
              rw [map_getD _ _ _ (by omega), hn.cells, hg i hi, List.length_map]; exact d4 _ (by omega))
            (fun p hp => by
              rw [hlen2] at hp
              exact cell_of_block d1 (by omega))
            (fun i j hi hj => by
              rw [hlen2] at hi
              have hij := d4 (off + i) (by omega)
              rw [map_getD _ _ _ (by omega), hn.cells, hg i hi, map_getD _ _ _ (by omega)]
              have := hf _ _ (d5 (off + i) j (by omega) hj)
              rw [Nat.add_mul] at this
              rw [show xm.2.1 + off * k.esz + (i * k.esz + j) = xm.2.1 + (off * k.esz + i * k.esz) + j by omega]
              exact this) (by omega) (by omega)
          rw [hlen2] at this
          exact this
      · exact .any _
    · exact .any _
  · rename_i tag l
    cases h with
    | ds0 _ a cap _ => exact .ds0 _ _ _ (by omega)
    | ds _ _ b o cap esz vs a1 a2 a3 a4 a5 a6 a7 a8 =>
      have := R.ds (I := I') (J := J') (rf := rf') (w := w) (min tag t) (l.map (expE f)) b o cap esz vs
        (fun h => hJ1 (by omega) _ (a1 (by omega))) (a2.elim (hI _) (hJ _)) (by simpa using a3)
        (fun i hi => by
          rw [List.length_map] at hi
          rw [map_getD _ _ _ hi, hn.cells, List.length_map]; exact a4 i hi)
        (fun p hp => by
          rw [List.length_map] at hp
          exact a5 p hp)
        (fun i j hi hj => by
          rw [List.length_map] at hi
          have hij := a4 i hi
          rw [map_getD _ _ _ hi, hn.cells, map_getD _ _ _ (by omega)]
          exact hf _ _ (a6 i j hi hj)) (by simpa using a7) (by omega)
      rw [List.length_map] at this
      exact this
  · cases h with
    | nilS a => exact .ds0 _ _ _ (by omega)
  · rw [h.int_inv]; exact .int _ _
  · rw [h.bool_inv]; exact .bool _
  · rw [h.str_inv]; exact .str _
  · cases h; exact .nilP
  · exact .any _

theorem expC_sound (x : AV) (v : Value) (h : R V.I V.J (rfOf V.m L) w x v) : R I' J' rf' w (expC t L0 x) v := by
  unfold expC
  refine stepC_sound hr t ht hI hJ hm hsub hJ1 hm1 (fun x v h => ?_) (stepC_noAgg _ _ _) x v h
  refine stepC_sound hr t ht hI hJ hm hsub hJ1 hm1 (fun x v h => ?_) (stepC_noAgg _ _ _) x v h
  refine stepC_sound hr t ht hI hJ hm hsub hJ1 hm1 (fun x v h => ?_) (stepC_noAgg _ _ _) x v h
  exact stepC_sound hr t ht hI hJ hm hsub hJ1 hm1 (fun x v _ => .any _) (fun x l => by simp) x v h

theorem expE_sound (x : AV) (v : Value) (h : R V.I V.J (rfOf V.m L) w x v) : R I' J' rf' w (expE (expC t L0) x) v := by
  have hc := expC_sound hr t ht hI hJ hm hsub hJ1 hm1 (rf' := rf')
  unfold expE
  split
  · cases h with
    | agg l arr h1 h2 =>
      refine .agg _ _ (by simp [h1]) fun i hi => ?_
      rw [List.length_map] at hi
      rw [map_getD _ _ _ hi]
      exact hc _ _ (h2 i hi)
  · exact hc _ _ h

theorem exp_sound (x : AV) (v : Value) (h : R V.I V.J (rfOf V.m L) w x v) : R I' J' rf' w (exp t L0 x) v := by
  have hc := expE_sound hr t ht hI hJ hm hsub hJ1 hm1 (rf' := rf')
  unfold exp
  split
  · cases h with
    | tup l arr h1 h2 =>
      refine .tup _ _ (by simp [h1]) fun i hi => ?_
      rw [List.length_map] at hi
      rw [map_getD _ _ _ hi]
      exact hc _ _ (h2 i hi)
  · exact hc _ _ h
end

def CSpec (P : Program) (f : FuncId) (args : List AV) (r : AV) : Prop :=
  ∀ (I : Nat → Prop) (w : World) (vs : Array Value), vs.size = args.length →
    (∀ i, i < args.length → R I (fun _ => False) (fun _ => none) w (args.getD i .any) (vs.getD i undef)) → (∀ x, I x → x < w.heap.size) → GOKw I w →
    Calls P f vs w (fun e w' => ∃ v, ∃ J' : Nat → Prop, e = .returned v ∧ Below w.heap.size w w' ∧ (∀ x, J' x → w.heap.size ≤ x ∧ x < w'.heap.size) ∧ R (fun _ => False) J' (fun _ => none) w' r v)

def CanCall (P : Program) (f : FuncId) : Prop := ∃ fn, P.funcs[f]? = some fn ∧ (fn.name == "runtime.NumGoroutine") = false ∧ fn.body.isSome = true

structure Sound (P : Program) (Sg : FuncId → Option (List AV → Option AV)) : Prop where
  can : ∀ f F, Sg f = some F → CanCall P f
  spec : ∀ f F args r, Sg f = some F → F args = some r → CSpec P f args r

theorem run_call {f : FuncId} (hc : CanCall P f) {ev : Operand → Value} {o : Oper} {args : Array Operand} {ts : Array TypeId}
    (hop : o.op = .call { callee := .value (.func f), args, argTypes := ts }) (hf : ev (.func f) = .func (.func f) #[] #[]) (w : World) :
    (execOp ev o).run P w = .ok (.enter f (args.map ev)) w := by
  obtain ⟨fn, h1, h2, h3⟩ := hc
  have h2' : ¬ fn.name = "runtime.NumGoroutine" := by simpa using h2
  have h3' : ¬ fn.body = none := by
    cases hb : fn.body <;> simp_all
  simp [execOp, hop, resolve, hf, Deferred.ofValue, invoke, callFunc, h1, h2', h3']


theorem call_contract {V : Vw} {L : List Blk} {w : World} (hr : Rel V L w) {f : FuncId} {L0 : List Blk} (hsub : ∀ (b : Nat) (k : Blk), L0[b]? = some k → L[b]? = some k)
    {xs : List AV} {vs : Array Value} (hl : vs.size = xs.length) (hx : ∀ i, i < xs.length → R V.I V.J (rfOf V.m L) w (xs.getD i .any) (vs.getD i undef)) {r : AV}
    (hs : CSpec P f (xs.map (exp 0 L0)) r) :
    Calls P f vs w (fun e w' => ∃ v V', e = .returned v ∧ Rel V' L w' ∧ Step V w V' w' ∧ rfExt (rfOf V.m L) (rfOf V'.m L) ∧ R V'.I V'.J (rfOf V'.m L) w' r v) := by
  let I' : Nat → Prop := fun x => V.I x ∨ V.J x ∨ ∃ (b : Nat) (e : Nat × Nat × Nat), V.m[b]? = some e ∧ e.1 = x
  have hlt : ∀ x, I' x → x < w.heap.size := fun x hx => by
    rcases hx with h | h | ⟨b, e, h, rfl⟩
    · exact hr.Ilt x h
    · exact (hr.Jlt x h).2
    · exact hr.blt h
  refine (hs I' w vs (by simpa using hl) (fun i hi => ?_) hlt (hr.glob.mono (fun x h => .inl h) fun _ _ => rfl)).mono ?_
  · rw [List.length_map] at hi
    rw [map_getD _ _ _ hi]
    exact exp_sound hr 0 (by omega) (fun x h => .inl (.inl h)) (fun x h => .inl (.inr (.inl h))) (fun b e h => .inl (.inr (.inr ⟨b, e, h, rfl⟩))) hsub (by simp) (by simp) _ _ (hx i hi)
  · rintro e w' ⟨v, J', rfl, hb, hJ', hv⟩
    have hst : Step V w { V with J := fun x => V.J x ∨ J' x } w' :=
      ⟨rfl, rfl, fun _ h => .inl h, fun x hx hm => ⟨hb.block x hx, hm, fun h => h.elim id fun h => absurd (hJ' x h).1 (Nat.not_le.2 hx)⟩, hb.size, hb.os, hb.tape, hb.output⟩
    refine ⟨v, { V with J := fun x => V.J x ∨ J' x }, rfl, ⟨hr.len, fun b k x h1 h2 => ?_, fun b x h => ?_, hr.inj, fun x h => Nat.lt_of_lt_of_le (hr.Ilt x h) hb.size, fun x h => ?_, Nat.le_trans hr.Bsz hb.size, hr.big, hr.globS hst⟩, hst, .refl _, ?_⟩
    · obtain ⟨c, ty, a1, a2, a3, a4, a5⟩ := hr.blk b k x h1 h2
      exact ⟨c, ty, by rw [hb.block _ (hr.blt h2)]; exact a1, a2, a3, a4, fun i j hi hj => (a5 i j hi hj).step hr hst (.refl _)⟩
    · have h1 := hr.fresh b x h
      have h2 := hr.blt h
      exact ⟨h1.1, h1.2.1, fun hj => hj.elim h1.2.2 fun hj => by have := (hJ' _ hj).1; omega⟩
    · show V.B ≤ x ∧ x < w'.heap.size
      rcases h with h | h
      · exact ⟨(hr.Jlt x h).1, Nat.lt_of_lt_of_le (hr.Jlt x h).2 hb.size⟩
      · have := hJ' x h; have := hr.Bsz; exact ⟨by omega, by omega⟩
    · exact hv.mono (fun x h => h.elim) (fun x h => .inr h) (fun _ _ => rfl) (fun b e h => by simp at h)

end Go.Ev
namespace Go.Ev
open Go Go.RowKit
variable [Gl] [Lit]

variable {P : Program} {Sg : FuncId → Option (List AV → Option AV)}

structure PF (P : Program) : Prop where
  mixed : P.follows .mixedOrders = true

def evD (P : Program) (Sg : FuncId → Option (List AV → Option AV)) (n0 : Nat) (ρ : Operand → AV) (L : List Blk) (op : Op) : Option (AV × List Blk) :=
  match op with
  | .call { callee := .value (.func f), args, argTypes := _ } => match Sg f with
    | some F => (F (args.toList.map fun x => exp 0 (L.take n0) (ρ x))).map fun r => (r, L)
    | none => none
  | op => match evP P ρ L op with
    | some v => some (v, L)
    | none => evE P ρ L op

def wantedA (ops : Array Oper) (t : List AV) (o : Oper) : Option Bool :=
  match o.guard with
  | none => some true
  | some (j, want) => match (ops[j]?).bind (·.dst) with
    | some d => match t.getD d .any with
      | .bool b => some (b == want)
      | .tup _ => some false
      | _ => none
    | none => none

theorem RelS.ρ {V : Vw} {s : St} {a : Act} {w : World} (h : RelS V s a w) (x : Operand) : R V.I V.J (rfOf V.m s.L) w (s.ρ x) (a.eval x) := by
  cases x with
  | tmp t =>
    simp only [St.ρ, Act.eval]
    by_cases ht : t < s.t.length
    · exact h.tmps t ht
    · have : s.t.getD t .any = .any := by simp [List.getD_eq_getElem?_getD, List.getElem?_eq_none (Nat.le_of_not_lt ht)]
      rw [this]; exact .any _
  | const v => exact R.ofV v
  | global g => exact h.rel.globR g
  | func f => exact .fn _ _ _ rfl (by simp)

theorem RelS.put {V V' : Vw} {s : St} {a : Act} {w w' : World} {L' : List Blk} {v : AV} {u : Value} (h : RelS V s a w) (hr : Rel V' L' w') (hs : Step V w V' w')
    (hx : rfExt (rfOf V.m s.L) (rfOf V'.m L')) (hv : R V'.I V'.J (rfOf V'.m L') w' v u) (dst : Option Tmp) : RelS V' ⟨AV.put s.t dst v, L'⟩ (a.put dst u) w' := by
  refine ⟨hr, ?_, ?_, fun i hi => ?_⟩
  · cases dst <;> exact h.defers
  · cases dst <;> simp [Act.put, AV.put, h.size]
  · cases dst with
    | none => exact (h.tmps i hi).step h.rel hs hx
    | some d =>
      simp only [AV.put, List.length_set] at hi ⊢
      simp only [Act.put]
      by_cases hd : d = i
      · subst hd
        have : d < a.tmps.size := by rw [h.size]; exact hi
        simp [List.getD_eq_getElem?_getD, hi, this]
        exact hv
      · simp only [List.getD_eq_getElem?_getD, List.getElem?_set_ne hd, Array.getD_eq_getD_getElem?, Array.getElem?_setIfInBounds_ne hd]
        have := (h.tmps i hi).step h.rel hs hx
        simpa using this

theorem wanted_sound {V : Vw} {s : St} {a : Act} {w : World} (h : RelS V s a w) {ops : Array Oper} {o : Oper} {b : Bool} (hw : wantedA ops s.t o = some b) :
    Region.wanted o (yielded ops a.tmps) = b := by
  unfold wantedA at hw
  unfold Region.wanted
  split at hw
  · rename_i hg; simp at hw; subst hw; simp [hg]
  · rename_i j want hg
    simp only [hg]
    split at hw
    · rename_i d hd
      split at hw
      · rename_i c hc
        simp at hw; subst hw
        have hlt : d < s.t.length := by
          rcases Nat.lt_or_ge d s.t.length with h | h
          · exact h
          · simp [List.getD_eq_getElem?_getD, List.getElem?_eq_none h] at hc
        have h1 := h.tmps d hlt
        rw [hc] at h1
        have h2 := h1.bool_inv
        have hlt' : d < a.tmps.size := by rw [h.size]; exact hlt
        have h3 : a.tmps[d]? = some (.bool c) := by
          rw [← h2]; simp [hlt']
        simp [yielded, hd, h3]
      · rename_i l hc
        simp at hw; subst hw
        have hlt : d < s.t.length := by
          rcases Nat.lt_or_ge d s.t.length with h | h
          · exact h
          · simp [List.getD_eq_getElem?_getD, List.getElem?_eq_none h] at hc
        have h1 := h.tmps d hlt
        rw [hc] at h1
        have hlt' : d < a.tmps.size := by rw [h.size]; exact hlt
        generalize hu : a.tmps.getD d undef = u at h1
        cases h1 with
        | tup _ arr _ _ =>
          have h3 : a.tmps[d]? = some (.tuple arr) := by
            rw [← hu]; simp [hlt']
          simp [yielded, hd, h3]
      · simp at hw
    · simp at hw

def SX (V : Vw) (L : List Blk) (w : World) (V' : Vw) (L' : List Blk) (w' : World) : Prop := Step V w V' w' ∧ rfExt (rfOf V.m L) (rfOf V'.m L')
theorem SX.refl (V : Vw) (L : List Blk) (w : World) : SX V L w V L w := ⟨.refl _ _, .refl _⟩
theorem rfExt.trans {a b c : Nat → Option E} (h : rfExt a b) (k : rfExt b c) : rfExt a c := fun x e he => by
  obtain ⟨e', h1, h2, h3⟩ := h x e he
  obtain ⟨e'', k1, k2, k3⟩ := k x e' h1
  refine ⟨e'', k1, Nat.le_trans h2 k2, fun hv => ?_⟩
  have := k3 (by omega)
  subst this
  exact h3 hv
theorem SX.trans {V V' V'' : Vw} {L L' L'' : List Blk} {w w' w'' : World} (h : SX V L w V' L' w') (k : SX V' L' w' V'' L'' w'') : SX V L w V'' L'' w'' :=
  ⟨h.1.trans k.1, h.2.trans k.2⟩

theorem evD_wpU (hP : PF P) (hS : Sound P Sg) {n0 : Nat} {V : Vw} {s : St} {a : Act} {w : World} (h : RelS V s a w) {o : Oper} {v : AV} {L' : List Blk}
    (he : evD P Sg n0 s.ρ s.L o.op = some (v, L')) {K : Act → World → Prop} {Q : Exit → Act → World → Prop}
    (hK : ∀ u w' V', RelS V' ⟨AV.put s.t o.dst v, L'⟩ (a.put o.dst u) w' → SX V s.L w V' L' w' → K (a.put o.dst u) w') : o.wp P a w K Q := by
  unfold evD at he
  split at he
  · rename_i f args ts hop
    split at he
    · rename_i F hF
      simp only [Option.map_eq_some_iff, Prod.mk.injEq] at he
      obtain ⟨r, hr, rfl, rfl⟩ := he
      have hrun := run_call (P := P) (hS.can f F hF) (ev := a.eval) hop rfl w
      unfold Oper.wp
      rw [hrun]
      simp only [Oper.upon]
      have hc := call_contract (P := P) h.rel (f := f) (L0 := s.L.take n0) (fun b k hb => by
        rw [List.getElem?_take] at hb; split at hb
        · exact hb
        · simp at hb) (xs := args.toList.map s.ρ) (vs := args.map a.eval) (by simp) (fun i hi => by
          simp at hi
          simp only [List.getD_eq_getElem?_getD, List.getElem?_map, Array.getElem?_toList, Array.getElem?_eq_getElem hi, Option.map_some, Option.getD_some, Array.getD_eq_getD_getElem?, Array.getElem?_map]
          exact h.ρ _) (r := r) (hS.spec f F _ r hF (by rw [List.map_map]; exact hr))
      refine hc.mono ?_
      rintro e w' ⟨u, V', rfl, g1, g2, g3, g4⟩
      exact hK _ _ V' (h.put g1 g2 g3 g4 o.dst) ⟨g2, g3⟩
    · simp at he
  · rename_i op hnot
    split at he
    · rename_i u hu
      simp only [Option.some.injEq, Prod.mk.injEq] at he
      obtain ⟨rfl, rfl⟩ := he
      obtain ⟨u', h1, h2⟩ := evP_sound h.rel h.ρ (fun x c hx => by subst hx; rfl) hu
      unfold Oper.wp
      rw [h1]
      exact hK _ _ V (h.put h.rel (.refl _ _) (.refl _) h2 o.dst) (.refl _ _ _)
    · obtain ⟨u, V', w', h1, h2, h3, h4, h5⟩ := evE_sound h.rel h.ρ he
      unfold Oper.wp
      rcases h1 with h1 | ⟨h1, rfl⟩
      · rw [h1]; exact hK _ _ V' (h.put h2 h3 h4 h5 o.dst) ⟨h3, h4⟩
      · rw [h1]; exact hK _ _ V' (h.put h2 h3 h4 h5 o.dst) ⟨h3, h4⟩

theorem evD_wp (hP : PF P) (hS : Sound P Sg) {n0 : Nat} {V : Vw} {s : St} {a : Act} {w : World} (h : RelS V s a w) {o : Oper} {v : AV} {L' : List Blk}
    (he : evD P Sg n0 s.ρ s.L o.op = some (v, L')) {K : Act → World → Prop} {Q : Exit → Act → World → Prop}
    (hK : ∀ a' w' V', RelS V' ⟨AV.put s.t o.dst v, L'⟩ a' w' → SX V s.L w V' L' w' → K a' w') : o.wp P a w K Q :=
  evD_wpU hP hS h he fun u w' V' => hK _ w' V'

theorem Rel.drawn {V : Vw} {L : List Blk} {w : World} (h : Rel V L w) (n : Nat) : Rel V L { w with drawn := n } :=
  ⟨h.len, fun b k x h1 h2 => by
    obtain ⟨c, ty, a1, a2, a3, a4, a5⟩ := h.blk b k x h1 h2
    exact ⟨c, ty, a1, a2, a3, a4, fun i j hi hj => (a5 i j hi hj).mono (w := w) (w' := { w with drawn := n }) (fun _ h => h) (fun _ h => h) (fun _ _ => rfl) (.refl _)⟩,
   h.fresh, h.inj, h.Ilt, h.Jlt, h.Bsz, h.big, h.glob.mono (fun _ h => h) fun _ _ => rfl⟩
theorem RelS.drawn {V : Vw} {s : St} {a : Act} {w : World} (h : RelS V s a w) (n : Nat) : RelS V s a { w with drawn := n } :=
  ⟨h.rel.drawn n, h.defers, h.size, fun i hi => (h.tmps i hi).mono (w := w) (w' := { w with drawn := n }) (fun _ h => h) (fun _ h => h) (fun _ _ => rfl) (.refl _)⟩
theorem Step.drawn (V : Vw) (w : World) (n : Nat) : Step V w V { w with drawn := n } := ⟨rfl, rfl, fun _ h => h, fun _ _ h => ⟨rfl, h, fun h => h⟩, Nat.le_refl _, rfl, rfl, rfl⟩

end Go.Ev
namespace Go.Ev
open Go Go.RowKit
variable [Gl] [Lit]

variable {P : Program} {Sg : FuncId → Option (List AV → Option AV)}


def ISpec (P : Program) (f : FuncId) (args : List AV) (L : List Blk) (K : AV → List Blk → Prop) : Prop :=
  ∀ (V : Vw) (w : World) (vs : Array Value), Rel V L w → vs.size = args.length → (∀ i, i < args.length → R V.I V.J (rfOf V.m L) w (args.getD i .any) (vs.getD i undef)) →
    Calls P f vs w (fun e w' => ∃ v r L' V', e = .returned v ∧ K r L' ∧ Rel V' L' w' ∧ Step V w V' w' ∧ rfExt (rfOf V.m L) (rfOf V'.m L') ∧ R V'.I V'.J (rfOf V'.m L') w' r v)

def InlK (P : Program) (s : St) (o : Oper) (K : AV → List Blk → Prop) : Prop :=
  ∃ x args ts f caps, o.op = .call { callee := .value x, args, argTypes := ts } ∧ s.ρ x = .fn f caps ∧ CanCall P f ∧ ISpec P f (args.toList.map s.ρ ++ caps) s.L K

def OpK (P : Program) (Sg : FuncId → Option (List AV → Option AV)) (s : St) (o : Oper) (K : AV → List Blk → Prop) : Prop :=
  match evOp P Sg s.ρ s.L o.op with
  | some (v, L') => K v L'
  | none => InlK P s o K

def AOps (P : Program) (Sg : FuncId → Option (List AV → Option AV)) (ops : Array Oper) : List Oper → (St → Prop) → St → Prop
  | [], Q, s => Q s
  | o :: r, Q, s => match wantedA ops s.t o with
    | some b => if b then OpK P Sg s o (fun v L' => AOps P Sg ops r Q ⟨AV.put s.t o.dst v, L'⟩) else AOps P Sg ops r Q ⟨AV.put s.t o.dst (.tup []), s.L⟩
    | none => False

theorem evOp_evD (ρ : Operand → AV) (L : List Blk) (op : Op) : evOp P Sg ρ L op = evD P Sg L.length ρ L op := by
  unfold evOp evD
  rw [List.take_length]
  cases op
  case call c =>
    obtain ⟨callee, args, ts⟩ := c
    cases callee
    case value x => cases x <;> rfl
    all_goals rfl
  all_goals rfl

theorem inl_wpU {V : Vw} {s : St} {a : Act} {w : World} (h : RelS V s a w) {o : Oper} {K0 : AV → List Blk → Prop} (hi : InlK P s o K0) {K : Act → World → Prop} {Q : Exit → Act → World → Prop}
    (hK : ∀ u w' V' v L', K0 v L' → RelS V' ⟨AV.put s.t o.dst v, L'⟩ (a.put o.dst u) w' → SX V s.L w V' L' w' → K (a.put o.dst u) w') : o.wp P a w K Q := by
  obtain ⟨x, args, ts, f, caps, hop, hx, hc, hs⟩ := hi
  have hx' := h.ρ x
  rw [hx] at hx'
  generalize hev : a.eval x = vx at hx'
  cases hx' with
  | fn _ _ arr h1 h2 =>
    obtain ⟨fn, f1, f2, f3⟩ := hc
    have f2' : ¬ fn.name = "runtime.NumGoroutine" := by simpa using f2
    have f3' : ¬ fn.body = none := by cases hb : fn.body <;> simp_all
    have hrun : (execOp a.eval o).run P w = .ok (.enter f (args.map a.eval ++ arr)) w := by
      simp [execOp, hop, resolve, hev, Deferred.ofValue, invoke, callFunc, f1, f2', f3']
    unfold Oper.wp
    rw [hrun]
    simp only [Oper.upon]
    refine (hs V w _ h.rel (by simp [h1]) (fun i hi => ?_)).mono ?_
    · by_cases hlt : i < args.size
      · have e1 : (args.toList.map s.ρ ++ caps).getD i .any = s.ρ args[i] := by
          simp only [List.getD_eq_getElem?_getD]
          rw [List.getElem?_append_left (by simpa using hlt)]
          simp [hlt]
        have e2 : (args.map a.eval ++ arr).getD i undef = a.eval args[i] := by
          rw [Array.getD_eq_getD_getElem?, Array.getElem?_append_left (by simpa using hlt)]
          simp [hlt]
        rw [e1, e2]; exact h.ρ _
      · simp at hi
        have e1 : (args.toList.map s.ρ ++ caps).getD i .any = caps.getD (i - args.size) .any := by
          simp only [List.getD_eq_getElem?_getD]
          rw [List.getElem?_append_right (by simp; omega)]
          simp
        have e2 : (args.map a.eval ++ arr).getD i undef = arr.getD (i - args.size) undef := by
          rw [Array.getD_eq_getD_getElem?, Array.getElem?_append_right (by simp; omega)]
          simp
        rw [e1, e2]; exact h2 _ (by omega)
    · rintro e w' ⟨u, r, L', V', rfl, g0, g1, g2, g3, g4⟩
      exact hK _ _ V' r L' g0 (h.put g1 g2 g3 g4 o.dst) ⟨g2, g3⟩

theorem inl_wp {V : Vw} {s : St} {a : Act} {w : World} (h : RelS V s a w) {o : Oper} {K0 : AV → List Blk → Prop} (hi : InlK P s o K0) {K : Act → World → Prop} {Q : Exit → Act → World → Prop}
    (hK : ∀ a' w' V' v L', K0 v L' → RelS V' ⟨AV.put s.t o.dst v, L'⟩ a' w' → SX V s.L w V' L' w' → K a' w') : o.wp P a w K Q :=
  inl_wpU h hi fun u w' V' => hK _ w' V'

theorem OpK_wp (hP : PF P) (hS : Sound P Sg) {V : Vw} {s : St} {a : Act} {w : World} (h : RelS V s a w) {o : Oper} {K0 : AV → List Blk → Prop} (hi : OpK P Sg s o K0) {K : Act → World → Prop} {Q : Exit → Act → World → Prop}
    (hK : ∀ a' w' V' v L', K0 v L' → RelS V' ⟨AV.put s.t o.dst v, L'⟩ a' w' → SX V s.L w V' L' w' → K a' w') : o.wp P a w K Q := by
  unfold OpK at hi
  split at hi
  · rename_i v L' he
    rw [evOp_evD] at he
    exact evD_wp hP hS h he fun a' w' V' h1 h2 => hK a' w' V' v L' hi h1 h2
  · exact inl_wp h hi hK

theorem AOps_wp (hP : PF P) (hS : Sound P Sg) {ops : Array Oper} {Q : Exit → Act → World → Prop} : ∀ (l : List Oper) (K : St → Prop) (s : St) (V : Vw) (a : Act) (w : World), RelS V s a w → AOps P Sg ops l K s →
    (∀ s' a' w' V', K s' → RelS V' s' a' w' → SX V s.L w V' s'.L w' → Q .normal a' w') → wpList P ops Q l a w
  | [], K, s, V, a, w, h, hk, hQ => hQ s a w V hk h (.refl _ _ _)
  | o :: l, K, s, V, a, w, h, hk, hQ => by
    unfold AOps at hk
    split at hk
    · rename_i b hb
      have hw := wanted_sound h hb
      cases b with
      | true =>
        simp only [if_true] at hk
        unfold wpList
        rw [if_pos hw]
        exact .inl (OpK_wp hP hS h hk fun a' w' V' v L' h1 h2 h3 => AOps_wp hP hS l K _ V' a' w' h2 h1 fun s'' a'' w'' V'' g1 g2 g3 => hQ s'' a'' w'' V'' g1 g2 (h3.trans g3))
      | false =>
        simp only [Bool.false_eq_true, if_false] at hk
        unfold wpList
        rw [if_neg (by simp [hw])]
        exact AOps_wp hP hS l K _ V _ w (h.put h.rel (.refl _ _) (.refl _) (.tup _ _ rfl (by simp)) o.dst) hk hQ
    · exact hk.elim


def stepD (P : Program) (Sg : FuncId → Option (List AV → Option AV)) (n0 : Nat) (ops : Array Oper) (i : Nat) (s : St) : Option St :=
  match ops[i]? with
  | none => none
  | some o => match wantedA ops s.t o with
    | some b => if b then (evD P Sg n0 s.ρ s.L o.op).map fun r => ⟨AV.put s.t o.dst r.1, r.2⟩ else some ⟨AV.put s.t o.dst (.tup []), s.L⟩
    | none => none

def runD (P : Program) (Sg : FuncId → Option (List AV → Option AV)) (n0 : Nat) (ops : Array Oper) : List Nat → St → Option St
  | [], s => some s
  | i :: r, s => (stepD P Sg n0 ops i s).bind (runD P Sg n0 ops r)

def cls : Op → Nat
  | .move _ | .assign _ | .pick .. | .binOp .. | .unOp .. | .convert .. | .makeFunc .. | .field .. | .index .. | .extract .. | .build .. => 0
  | .load .. | .nilCheck _ | .slice .. | .fieldAddr .. | .indexAddr .. => 1
  | .call { callee := .builtin .len, .. } => 1
  | .call { callee := .value (.func _), .. } => 1
  | .alloc _ | .box .. | .makeSlice .. | .buildSlice .. => 2
  | _ => 3

def indep (cj ci : Nat) : Bool := cj == 0 || ci == 0 || (cj == 1 && (ci == 1 || ci == 2))

theorem evP_congr {ρ ρ' : Operand → AV} {L : List Blk} {op : Op} (h : ∀ x ∈ op.operands, ρ x = ρ' x) : evP P ρ L op = evP P ρ' L op := by
  unfold evP
  cases op <;> simp only [Op.operands] at h <;> try rfl
  case move x => simp [h x (by simp)]
  case assign x => simp [h x (by simp)]
  case pick c a b => simp [h c (by simp), h a (by simp), h b (by simp)]
  case load t a => simp [h a (by simp)]
  case nilCheck x => simp [h x (by simp)]
  case binOp op t x y yt => simp [h x (by simp), h y (by simp)]
  case unOp op t x => simp [h x (by simp)]
  case convert s d x => simp [h x (by simp)]
  case makeFunc f fi ca =>
    cases f <;> simp only
    split
    · congr 2
      apply List.map_congr_left
      intro x hx
      exact h x (by simp; right; simpa using hx)
    · rfl
  case slice t x lo hi mx =>
    have e1 := h x (by simp)
    have e2 : lo.map ρ = lo.map ρ' := by
      cases lo with
      | none => rfl
      | some y => simp only [Option.map_some]; rw [h y (by simp)]
    have e3 : hi.map ρ = hi.map ρ' := by
      cases hi with
      | none => rfl
      | some y => simp only [Option.map_some]; rw [h y (by simp)]
    have e4 : mx.map ρ = mx.map ρ' := by
      cases mx with
      | none => rfl
      | some y => simp only [Option.map_some]; rw [h y (by simp)]
    simp [e1, e2, e3, e4]
  case fieldAddr s x f => simp [h x (by simp)]
  case field t x f => simp [h x (by simp)]
  case indexAddr t x i => simp [h x (by simp), h i (by simp)]
  case index t x i => simp [h x (by simp), h i (by simp)]
  case extract t i => simp [h t (by simp)]
  case call c =>
    obtain ⟨callee, args, ts⟩ := c
    cases callee with
    | builtin b =>
      have hall : args.toList.map ρ = args.toList.map ρ' := List.map_congr_left fun x hx => h x (by simp [Call.operands]; simpa using hx)
      cases b <;> try rfl
      · simp only
        cases h0 : ts[0]? with
        | none => rfl
        | some t =>
          cases h1 : args[0]? with
          | none => rfl
          | some x =>
            have : ρ x = ρ' x := h x (by simp [Call.operands]; exact Array.mem_of_getElem? h1)
            simp [this]
      all_goals simp only [hall]
    | _ => rfl

theorem evE_congr {ρ ρ' : Operand → AV} {L : List Blk} {op : Op} (h : ∀ x ∈ op.operands, ρ x = ρ' x) : evE P ρ L op = evE P ρ' L op := by
  unfold evE
  cases op <;> simp only [Op.operands] at h <;> try rfl
  case box t x => simp [h x (by simp)]
  case build t parts =>
    have : (parts.toList.map fun p => (p.1, ρ p.2)) = parts.toList.map fun p => (p.1, ρ' p.2) := List.map_congr_left fun p hp => by
      rw [h p.2 (by simp; exact ⟨p.1, by simpa using hp⟩)]
    simp [this]
  case buildSlice t len parts =>
    have : (parts.toList.map fun p => (p.1, ρ p.2)) = parts.toList.map fun p => (p.1, ρ' p.2) := List.map_congr_left fun p hp => by
      rw [h p.2 (by simp; exact ⟨p.1, by simpa using hp⟩)]
    simp [this]
  case makeSlice t l c => simp [h l (by simp), h c (by simp)]
  case store t a x => simp [h a (by simp), h x (by simp)]
  case call c =>
    obtain ⟨callee, args, ts⟩ := c
    cases callee with
    | builtin b =>
      cases b <;> try rfl
      · simp only
        cases h0 : args[0]? with
        | none => cases ts[0]? <;> cases ts[1]? <;> rfl
        | some x =>
          cases h1 : args[1]? with
          | none => cases ts[0]? <;> cases ts[1]? <;> rfl
          | some y =>
            have e1 : ρ x = ρ' x := h x (by simp [Call.operands]; exact Array.mem_of_getElem? h0)
            have e2 : ρ y = ρ' y := h y (by simp [Call.operands]; exact Array.mem_of_getElem? h1)
            cases ts[0]? with
            | none => cases ts[1]? <;> rfl
            | some t =>
              cases ts[1]? with
              | none => rfl
              | some u => simp only [e1, e2]
      · simp only
        cases h0 : args[0]? with
        | none => cases ts[0]? <;> cases ts[1]? <;> rfl
        | some x =>
          cases h1 : args[1]? with
          | none => cases ts[0]? <;> cases ts[1]? <;> rfl
          | some y =>
            have e1 : ρ x = ρ' x := h x (by simp [Call.operands]; exact Array.mem_of_getElem? h0)
            have e2 : ρ y = ρ' y := h y (by simp [Call.operands]; exact Array.mem_of_getElem? h1)
            cases ts[0]? with
            | none => cases ts[1]? <;> rfl
            | some t =>
              cases ts[1]? with
              | none => rfl
              | some u => simp only [e1, e2]
    | _ => rfl

theorem evD_congr {n0 : Nat} {ρ ρ' : Operand → AV} {L : List Blk} {op : Op} (h : ∀ x ∈ op.operands, ρ x = ρ' x) : evD P Sg n0 ρ L op = evD P Sg n0 ρ' L op := by
  unfold evD
  split
  · rename_i f args ts
    have : (args.toList.map fun x => exp 0 (L.take n0) (ρ x)) = args.toList.map fun x => exp 0 (L.take n0) (ρ' x) := List.map_congr_left fun x hx => by
      rw [h x (by simp [Op.operands, Call.operands]; right; simpa using hx)]
    rw [this]
  · rw [evP_congr h, evE_congr h]

end Go.Ev
namespace Go.Ev
open Go Go.RowKit
variable [Gl] [Lit]

variable {P : Program} {Sg : FuncId → Option (List AV → Option AV)}

theorem cls_call (c : Call) : cls (.call c) = 1 ∨ cls (.call c) = 3 := by
  obtain ⟨callee, args, ts⟩ := c
  cases callee with
  | value x =>
    cases x with
    | func f => exact .inl rfl
    | _ => exact .inr rfl
  | invoke r m => exact .inr rfl
  | builtin b => cases b <;> first | exact .inl rfl | exact .inr rfl

theorem cls0 {op : Op} (hc : cls op = 0) {n0 : Nat} {ρ : Operand → AV} {L L' : List Blk} {v : AV} (h : evD P Sg n0 ρ L op = some (v, L')) :
    L' = L ∧ ∀ n1 L2, evD P Sg n1 ρ L2 op = some (v, L2) := by
  cases op <;> simp only [cls] at hc <;> try (simp at hc; done)
  case build t parts =>
    simp only [evD, evP, evE] at h ⊢
    split at h
    · split at h
      · rename_i hok
        simp only [Option.map_eq_some_iff, Prod.mk.injEq] at h
        obtain ⟨l, h1, rfl, rfl⟩ := h
        exact ⟨rfl, fun n1 L2 => by simp [h1, hok]⟩
      · simp at h
    · simp at h
  case call c =>
    rcases cls_call c with h' | h' <;> (simp only [cls] at h'; omega)
  case makeFunc f fi ca =>
    cases f
    case func g =>
      simp only [evD, evP] at h ⊢
      by_cases hf : fi.size = 0
      · simp only [hf, if_true, Option.some.injEq, Prod.mk.injEq] at h ⊢
        exact ⟨h.2.symm, fun n1 L2 => ⟨h.1, trivial⟩⟩
      · simp [hf, evE] at h
    all_goals simp [evD, evP, evE] at h
  all_goals
    simp only [evD] at h ⊢
    split at h
    · rename_i u hu
      simp only [Option.some.injEq, Prod.mk.injEq] at h
      obtain ⟨rfl, rfl⟩ := h
      refine ⟨rfl, fun n1 L2 => ?_⟩
      simp only [evP] at hu ⊢
      first
        | rw [hu]
        | (obtain rfl := Option.some.inj hu; rfl)
    · simp [evE] at h

theorem ext_get {L ext : List Blk} {b : Nat} {k : Blk} (h : L[b]? = some k) : (L ++ ext)[b]? = some k := by
  rw [List.getElem?_append_left (List.getElem?_eq_some_iff.1 h).1, h]

theorem ext_okP {L ext : List Blk} {b ver : Nat} (h : okP L b ver = true) : okP (L ++ ext) b ver = true := by
  obtain ⟨k, h1, h2⟩ := okP_spec h
  unfold okP
  rw [ext_get h1]
  simpa using h2

theorem ext_slice {x : AV} {lo hi mx : Option AV} {L ext : List Blk} {v : AV} (h : evSlice x lo hi mx L = some v) : evSlice x lo hi mx (L ++ ext) = some v := by
  unfold evSlice at *
  split at h
  · rename_i b ver off len cap
    split at h
    · rename_i k hk
      simp only [ext_get hk]; exact h
    · simp at h
  · exact h
  · exact h
  · simp at h

theorem ext_idx {t : TypeId} {x : AV} {n : Int} {L ext : List Blk} {v : AV} (h : evIdxA P t x n L = some v) : evIdxA P t x n (L ++ ext) = some v := by
  unfold evIdxA at *
  split at h
  · split at h
    · rename_i b ver off len cap
      split at h
      · rename_i k hk
        simp only [ext_get hk]; exact h
      · simp at h
    · exact h
    · simp at h
  · split at h
    · rename_i sz hs
      split at h
      · rename_i hc
        rw [if_pos hc]
        split at h
        · split at h
          · rename_i hok
            rw [if_pos (ext_okP hok)]; exact h
          · simp at h
        · exact h
        · simp at h
      · simp at h
    · simp at h
  · simp at h

theorem ext_fa {s : TypeId} {x : AV} {f : Nat} {L ext : List Blk} {v : AV} (h : evFA P s x f L = some v) : evFA P s x f (L ++ ext) = some v := by
  unfold evFA at *
  split at h
  · split at h
    · split at h
      · split at h
        · split at h
          · rename_i hok
            simp only [ext_okP hok, if_true]; exact h
          · simp at h
        · exact h
        · simp at h
      · simp at h
    · simp at h
  · simp at h

theorem ext_len {x : AV} {L ext : List Blk} {v : AV} (h : evLen L x = some v) : evLen (L ++ ext) x = some v := by
  unfold evLen at *
  split at h
  · split at h
    · rename_i hok
      rw [if_pos (ext_okP hok)]; exact h
    · simp at h
  · exact h
  · exact h
  · exact h
  · simp at h

theorem cls1 {op : Op} (hc : cls op = 1) {n0 : Nat} {ρ : Operand → AV} {L L' : List Blk} {v : AV} (hn : n0 ≤ L.length) (h : evD P Sg n0 ρ L op = some (v, L')) :
    L' = L ∧ ∀ ext, evD P Sg n0 ρ (L ++ ext) op = some (v, L ++ ext) := by
  have plain : ∀ {u}, evP P ρ L op = some u → (∀ ext, evP P ρ (L ++ ext) op = some u) → (∀ f args ts, op ≠ .call { callee := .value (.func f), args, argTypes := ts }) → L' = L ∧ ∀ ext, evD P Sg n0 ρ (L ++ ext) op = some (v, L ++ ext) := by
    intro u hu hext hne
    have e : ∀ L2, evD P Sg n0 ρ L2 op = match evP P ρ L2 op with | some v => some (v, L2) | none => evE P ρ L2 op := fun L2 => by
      unfold evD
      split
      · exact absurd rfl (hne _ _ _)
      · rfl
    rw [e, hu] at h
    simp only [Option.some.injEq, Prod.mk.injEq] at h
    obtain ⟨rfl, rfl⟩ := h
    exact ⟨rfl, fun ext => by rw [e, hext]⟩
  cases op <;> simp only [cls] at hc <;> try (simp at hc; done)
  case call c =>
    obtain ⟨callee, args, ts⟩ := c
    cases callee with
    | value x =>
      cases x with
      | func f =>
        simp only [evD] at h ⊢
        split at h
        · rename_i F hF
          simp only [Option.map_eq_some_iff, Prod.mk.injEq] at h
          obtain ⟨r, h1, rfl, rfl⟩ := h
          refine ⟨rfl, fun ext => ?_⟩
          rw [List.take_append_of_le_length hn]
          simp [h1]
        · simp at h
      | _ => simp at hc
    | invoke r m => simp at hc
    | builtin b =>
      cases b <;> try (simp at hc; done)
      have hd : evD P Sg n0 ρ L (.call { callee := .builtin .len, args, argTypes := ts }) = match evP P ρ L (.call { callee := .builtin .len, args, argTypes := ts }) with | some v => some (v, L) | none => evE P ρ L (.call { callee := .builtin .len, args, argTypes := ts }) := rfl
      cases hu : evP P ρ L (.call { callee := .builtin .len, args, argTypes := ts }) with
      | none => rw [hd, hu] at h; simp [evE] at h
      | some u =>
        refine plain hu (fun ext => ?_) (by simp)
        simp only [evP] at hu ⊢
        split at hu
        · split at hu
          · exact hu
          · simp at hu
          · exact ext_len hu
          · simp at hu
        · simp at hu
  case load t a =>
    cases hu : evP P ρ L (.load t a) with
    | none => simp only [evD, hu] at h; simp [evE] at h
    | some u =>
      refine plain hu (fun ext => ?_) (by simp)
      simp only [evP] at hu ⊢
      split at hu
      · split at hu
        · split at hu
          · rename_i k hk
            simp only [ext_get hk]; exact hu
          · simp at hu
        · exact hu
        · simp at hu
      · simp at hu
  case nilCheck x =>
    cases hu : evP P ρ L (.nilCheck x) with
    | none => simp only [evD, hu] at h; simp [evE] at h
    | some u =>
      refine plain hu (fun ext => ?_) (by simp)
      simp only [evP] at hu ⊢
      split at hu
      · split at hu
        · rename_i hok; rw [if_pos (ext_okP hok)]; exact hu
        · simp at hu
      · exact hu
      · exact hu
      · simp at hu
  case slice t x lo hi mx =>
    cases hu : evP P ρ L (.slice t x lo hi mx) with
    | none => simp only [evD, hu] at h; simp [evE] at h
    | some u =>
      refine plain hu (fun ext => ?_) (by simp)
      simp only [evP] at hu ⊢
      split at hu
      · split at hu
        · rename_i k hk
          simp only [ext_get hk]
          split at hu
          · rename_i hc; rw [if_pos hc]; exact ext_slice hu
          · simp at hu
        · simp at hu
      · split at hu
        · rename_i hc; rw [if_pos hc]; exact ext_slice hu
        · simp at hu
      · exact ext_slice hu
      · exact hu
      · simp at hu
  case fieldAddr s x f =>
    cases hu : evP P ρ L (.fieldAddr s x f) with
    | none => simp only [evD, hu] at h; simp [evE] at h
    | some u =>
      refine plain hu (fun ext => ?_) (by simp)
      simp only [evP] at hu ⊢
      exact ext_fa hu
  case indexAddr t x i =>
    cases hu : evP P ρ L (.indexAddr t x i) with
    | none => simp only [evD, hu] at h; simp [evE] at h
    | some u =>
      refine plain hu (fun ext => ?_) (by simp)
      simp only [evP] at hu ⊢
      split at hu
      · exact ext_idx hu
      · simp at hu

theorem cls2 {op : Op} (hc : cls op = 2) {n0 : Nat} {ρ : Operand → AV} {L L' : List Blk} {v : AV} (h : evD P Sg n0 ρ L op = some (v, L')) : ∃ ext, L' = L ++ ext := by
  cases op <;> simp only [cls] at hc <;> try (simp at hc; done)
  case call c =>
    rcases cls_call c with h' | h' <;> (simp only [cls] at h'; omega)
  all_goals
    simp only [evD, evP, evE] at h
  case alloc t =>
    simp only [Option.map_eq_some_iff, Prod.mk.injEq] at h
    obtain ⟨z, _, _, rfl⟩ := h; exact ⟨_, rfl⟩
  case box t x =>
    split at h
    · simp only [Option.some.injEq, Prod.mk.injEq] at h
      exact ⟨_, h.2.symm⟩
    · simp at h
  case buildSlice t len parts =>
    split at h
    · split at h
      · split at h
        · split at h
          · split at h
            · simp only [Option.some.injEq, Prod.mk.injEq] at h
              exact ⟨_, h.2.symm⟩
            · simp at h
          · simp only [Option.map_eq_some_iff] at h
            obtain ⟨z, _, h⟩ := h
            split at h <;> (simp only [Prod.mk.injEq] at h; obtain ⟨_, rfl⟩ := h)
            · exact ⟨_, rfl⟩
            · exact ⟨[], by simp⟩
        · simp at h
      · simp at h
    · simp at h
  case makeSlice t l c =>
    split at h
    · split at h
      · split at h
        · simp only [Option.some.injEq, Prod.mk.injEq] at h
          exact ⟨_, h.2.symm⟩
        · simp at h
      · simp at h
    · simp at h

theorem evApp_len {L L' : List Blk} {s v : AV} {new : List AV} {sz by' : Nat} (h : evApp L s new sz by' = some (v, L')) : L.length ≤ L'.length := by
  unfold evApp at h
  repeat' split at h
  all_goals first
    | (simp only [Option.some.injEq, Prod.mk.injEq] at h; rw [← h.2]; simp; done)
    | (simp at h; done)
    | (simp at h; rw [← h.2]; simp; done)

theorem evCopy_len {L L' : List Blk} {s v : AV} {new : List AV} {sz : Nat} (h : evCopy L s new sz = some (v, L')) : L.length ≤ L'.length := by
  unfold evCopy at h
  repeat' split at h
  all_goals first
    | (simp only [Option.some.injEq, Prod.mk.injEq] at h; rw [← h.2]; simp; done)
    | (simp at h; done)

theorem evD_len {op : Op} {n0 : Nat} {ρ : Operand → AV} {L L' : List Blk} {v : AV} (h : evD P Sg n0 ρ L op = some (v, L')) : L.length ≤ L'.length := by
  unfold evD at h
  split at h
  · split at h
    · simp only [Option.map_eq_some_iff, Prod.mk.injEq] at h
      obtain ⟨_, _, _, rfl⟩ := h; exact Nat.le_refl _
    · simp at h
  · split at h
    · simp only [Option.some.injEq, Prod.mk.injEq] at h
      rw [h.2]; exact Nat.le_refl _
    · unfold evE at h
      split at h
      case h_7 =>
        split at h
        · split at h
          · split at h
            · split at h
              · exact evApp_len h
              · simp at h
            · simp at h
          · simp at h
        · simp at h
      case h_8 =>
        split at h
        · split at h
          · split at h
            · split at h
              · exact evCopy_len h
              · simp at h
            · simp at h
          · simp at h
        · simp at h
      all_goals
        repeat' split at h
        all_goals first
          | (simp only [Option.some.injEq, Prod.mk.injEq] at h; rw [← h.2]; simp; done)
          | (simp only [Option.map_eq_some_iff, Prod.mk.injEq] at h; obtain ⟨_, _, _, rfl⟩ := h; simp; done)
          | (simp only [Option.map_eq_some_iff] at h; obtain ⟨_, _, h⟩ := h; split at h <;> (simp only [Prod.mk.injEq] at h; obtain ⟨_, rfl⟩ := h; simp); done)
          | (simp at h; done)

end Go.Ev
namespace Go.Ev
open Go Go.RowKit
variable [Gl] [Lit]

variable {P : Program} {Sg : FuncId → Option (List AV → Option AV)} {ops : Array Oper}

theorem put_comm {t : List AV} {x y : Option Tmp} {v u : AV} (h : ∀ d, x = some d → y ≠ some d) : AV.put (AV.put t x v) y u = AV.put (AV.put t y u) x v := by
  cases x with
  | none => rfl
  | some d =>
    cases y with
    | none => rfl
    | some e =>
      have : d ≠ e := fun hde => h d rfl (by rw [hde])
      simp only [AV.put]
      exact List.set_comm _ _ this

theorem ρ_put {s : St} {L : List Blk} {dst : Option Tmp} {v : AV} {o : Oper} (h : ∀ d, dst = some d → d ∉ o.looksAt ops) : ∀ x ∈ o.op.operands, St.ρ ⟨AV.put s.t dst v, L⟩ x = s.ρ x := by
  intro x hx
  cases x with
  | tmp t =>
    cases dst with
    | none => rfl
    | some d =>
      have hne : d ≠ t := fun e => h d rfl (by
        subst e
        exact List.mem_append_left _ (List.mem_filterMap.2 ⟨.tmp d, by simpa using hx, rfl⟩))
      simp only [St.ρ, AV.put, List.getD_eq_getElem?_getD, List.getElem?_set_ne hne]
  | _ => rfl

theorem wantedA_put {t : List AV} {dst : Option Tmp} {v : AV} {o : Oper} (h : ∀ d, dst = some d → d ∉ o.looksAt ops) : wantedA ops (AV.put t dst v) o = wantedA ops t o := by
  cases dst with
  | none => rfl
  | some d =>
    unfold wantedA
    cases hg : o.guard with
    | none => rfl
    | some gw =>
      obtain ⟨g, want⟩ := gw
      simp only
      cases ht : (ops[g]?).bind (·.dst) with
      | none => rfl
      | some e =>
        have hne : d ≠ e := fun he => h d rfl (by subst he; simp [Oper.looksAt, hg, ht])
        simp only [AV.put, List.getD_eq_getElem?_getD, List.getElem?_set_ne hne]

theorem stepD_len {n0 : Nat} {i : Nat} {s s' : St} (h : stepD P Sg n0 ops i s = some s') : s.L.length ≤ s'.L.length := by
  unfold stepD at h
  split at h
  · simp at h
  · split at h
    · split at h
      · simp only [Option.map_eq_some_iff] at h
        obtain ⟨r, h1, rfl⟩ := h
        exact evD_len (L' := r.2) (v := r.1) (by rw [h1])
      · simp at h; subst h; exact Nat.le_refl _
    · simp at h

def indepOps (ops : Array Oper) (j i : Nat) : Bool :=
  match ops[j]?, ops[i]? with
  | some oj, some oi => oj.apart ops oi && oi.apart ops oj && indep (cls oj.op) (cls oi.op)
  | _, _ => false

theorem diamond {n0 : Nat} {j i : Nat} {s s1 s2 : St} (hn : n0 ≤ s.L.length) (hi : indepOps ops j i = true) (h1 : stepD P Sg n0 ops j s = some s1) (h2 : stepD P Sg n0 ops i s1 = some s2) :
    ∃ s1', stepD P Sg n0 ops i s = some s1' ∧ stepD P Sg n0 ops j s1' = some s2 := by
  unfold indepOps at hi
  split at hi
  · rename_i oj oi hoj hoi
    simp only [Bool.and_eq_true] at hi
    obtain ⟨⟨hap, hap'⟩, hcl⟩ := hi
    obtain ⟨a1, a2, a3⟩ := Oper.apart_spec hap
    obtain ⟨b1, b2, b3⟩ := Oper.apart_spec hap'
    unfold stepD at h1 h2 ⊢
    simp only [hoj] at h1
    simp only [hoi] at h2 ⊢
    split at h1
    · rename_i bj hwj
      -- what i wants is the same before j
      have wi : ∀ (v : AV) (L : List Blk), wantedA ops (AV.put s.t oj.dst v) oi = wantedA ops s.t oi := fun v L => wantedA_put a1
      have wj : ∀ (v : AV), wantedA ops (AV.put s.t oi.dst v) oj = wantedA ops s.t oj := fun v => wantedA_put b1
      have ci : ∀ (v : AV) (L L2 : List Blk), evD P Sg n0 (St.ρ ⟨AV.put s.t oj.dst v, L⟩) L2 oi.op = evD P Sg n0 s.ρ L2 oi.op := fun v L L2 => evD_congr (ρ_put a1)
      have cj : ∀ (v : AV) (L L2 : List Blk), evD P Sg n0 (St.ρ ⟨AV.put s.t oi.dst v, L⟩) L2 oj.op = evD P Sg n0 s.ρ L2 oj.op := fun v L L2 => evD_congr (ρ_put b1)
      cases bj with
      | false =>
        simp only [Bool.false_eq_true, if_false, Option.some.injEq] at h1
        subst h1
        simp only at h2
        rw [wi _ []] at h2
        split at h2
        · rename_i bi hwi
          cases bi with
          | false =>
            simp only [Bool.false_eq_true, if_false, Option.some.injEq] at h2 ⊢
            subst h2
            refine ⟨_, rfl, ?_⟩
            simp only [hoj, wj, hwj, Bool.false_eq_true, if_false, put_comm b2]
          | true =>
            simp only [if_true, Option.map_eq_some_iff] at h2 ⊢
            obtain ⟨r, hr, rfl⟩ := h2
            rw [ci] at hr
            refine ⟨_, ⟨r, hr, rfl⟩, ?_⟩
            simp only [hoj, wj, hwj, Bool.false_eq_true, if_false, put_comm b2]
        · simp at h2
      | true =>
        simp only [if_true, Option.map_eq_some_iff] at h1
        obtain ⟨rj, hrj, rfl⟩ := h1
        obtain ⟨vj, Lj⟩ := rj
        simp only at h2
        rw [wi _ []] at h2
        split at h2
        · rename_i bi hwi
          cases bi with
          | false =>
            simp only [Bool.false_eq_true, if_false, Option.some.injEq] at h2 ⊢
            subst h2
            refine ⟨_, rfl, ?_⟩
            simp only [hoj, wj, hwj, if_true]
            rw [cj, hrj]
            simp only [Option.map_some, put_comm b2]
          | true =>
            simp only [if_true, Option.map_eq_some_iff] at h2 ⊢
            obtain ⟨ri, hri, rfl⟩ := h2
            rw [ci] at hri
            obtain ⟨vi, Li⟩ := ri
            have fin : ∀ L1, evD P Sg n0 s.ρ s.L oi.op = some (vi, L1) → evD P Sg n0 s.ρ L1 oj.op = some (vj, Li) →
                ∃ s1', (∃ a, evD P Sg n0 s.ρ s.L oi.op = some a ∧ (⟨AV.put s.t oi.dst a.1, a.2⟩ : St) = s1') ∧
                  (match ops[j]? with
                    | none => none
                    | some o => match wantedA ops s1'.t o with
                      | some b => if b = true then Option.map (fun r => (⟨AV.put s1'.t o.dst r.1, r.2⟩ : St)) (evD P Sg n0 s1'.ρ s1'.L o.op) else some ⟨AV.put s1'.t o.dst (.tup []), s1'.L⟩
                      | none => none) = some ⟨AV.put (AV.put s.t oj.dst vj) oi.dst vi, Li⟩ := by
              intro L1 e1 e2
              refine ⟨_, ⟨_, e1, rfl⟩, ?_⟩
              simp only [hoj, wj, hwj, if_true]
              rw [cj, e2]
              simp only [Option.map_some, put_comm b2]
            by_cases hcj0 : cls oj.op = 0
            · obtain ⟨rfl, k2⟩ := cls0 hcj0 hrj
              exact fin Li hri (k2 _ _)
            · by_cases hci0 : cls oi.op = 0
              · obtain ⟨rfl, k2⟩ := cls0 hci0 hri
                exact fin s.L (k2 _ _) hrj
              · have hcj1 : cls oj.op = 1 := by
                  unfold indep at hcl
                  simp [hcj0, hci0] at hcl
                  exact hcl.1
                obtain ⟨rfl, k2⟩ := cls1 hcj1 hn hrj
                unfold indep at hcl
                simp [hcj1, hci0] at hcl
                rcases hcl with hcl | hcl
                · obtain ⟨rfl, _⟩ := cls1 hcl hn hri
                  exact fin _ hri hrj
                · obtain ⟨ext, rfl⟩ := cls2 hcl hri
                  exact fin _ hri (k2 ext)
        · simp at h2
    · simp at h1
  · simp at hi

theorem runD_take {n0 : Nat} {i : Nat} : ∀ (rem : List Nat) (s sf : St), n0 ≤ s.L.length → i ∈ rem → rem.Nodup → (∀ j ∈ rem.takeWhile (· != i), indepOps ops j i = true) → runD P Sg n0 ops rem s = some sf →
    ∃ s', stepD P Sg n0 ops i s = some s' ∧ runD P Sg n0 ops (rem.erase i) s' = some sf
  | [], _, _, _, hi, _, _, _ => by simp at hi
  | j :: rest, s, sf, hn, hi, hnd, hind, h => by
    simp only [runD, Option.bind_eq_some_iff] at h
    obtain ⟨s1, h1, h2⟩ := h
    by_cases hji : j = i
    · subst hji
      exact ⟨s1, h1, by simpa using h2⟩
    · have hi' : i ∈ rest := by
        rcases List.mem_cons.1 hi with h | h
        · exact absurd h.symm hji
        · exact h
      have hjt : (j != i) = true := by simpa using hji
      obtain ⟨s2, g1, g2⟩ := runD_take rest s1 sf (Nat.le_trans hn (stepD_len h1)) hi' (List.nodup_cons.1 hnd).2 (fun k hk => hind k (by simp [hjt, hk])) h2
      obtain ⟨s1', d1, d2⟩ := diamond hn (hind j (by simp [hjt])) h1 g1
      refine ⟨s1', d1, ?_⟩
      rw [List.erase_cons_tail (by simpa using hji)]
      simp only [runD, Option.bind_eq_some_iff]
      exact ⟨s2, d2, g2⟩

def maskOf (acc : List Nat) (o : Oper) : Nat :=
  o.after.toList.foldr (fun e m => if Region.binds .any e then m ||| 2 ^ e.on ||| acc.getD e.on 0 else m) 0
def masks : List Nat → List Oper → List Nat
  | acc, [] => acc
  | acc, o :: r => masks (acc ++ [maskOf acc o]) r

inductive Path (ops : Array Oper) : Nat → Nat → Prop
  | edge {i j : Nat} {o : Oper} {e : Edge} : ops[i]? = some o → e ∈ o.after → Region.binds .any e = true → e.on = j → Path ops i j
  | more {i j : Nat} {o : Oper} {e : Edge} : ops[i]? = some o → e ∈ o.after → Region.binds .any e = true → Path ops e.on j → Path ops i j

theorem maskOf_path {acc : List Nat} (hacc : ∀ i m, acc[i]? = some m → ∀ j, m.testBit j = true → Path ops i j) {i : Nat} {o : Oper} (ho : ops[i]? = some o) :
    ∀ j, (maskOf acc o).testBit j = true → Path ops i j := by
  intro j hj
  unfold maskOf at hj
  have : ∀ (l : List Edge), (∀ e ∈ l, e ∈ o.after) → (l.foldr (fun e m => if Region.binds .any e then m ||| 2 ^ e.on ||| acc.getD e.on 0 else m) 0).testBit j = true → Path ops i j := by
    intro l
    induction l with
    | nil => intro _ h; simp at h
    | cons e l ih =>
      intro hl h
      simp only [List.foldr_cons] at h
      split at h
      · rename_i hb
        simp only [Nat.testBit_or, Bool.or_eq_true] at h
        rcases h with (h | h) | h
        · exact ih (fun e he => hl e (by simp [he])) h
        · rw [Nat.testBit_two_pow] at h
          exact .edge ho (hl e (by simp)) hb (by simpa using h)
        · cases hm : acc[e.on]? with
          | none => simp [List.getD_eq_getElem?_getD, hm] at h
          | some m =>
            simp [List.getD_eq_getElem?_getD, hm] at h
            exact .more ho (hl e (by simp)) hb (hacc _ m hm j h)
      · exact ih (fun e he => hl e (by simp [he])) h
  exact this _ (fun e he => by simpa using he) hj

theorem masks_path : ∀ (l : List Oper) (acc : List Nat), (∀ q, l[q]? = ops[acc.length + q]?) → (∀ i m, acc[i]? = some m → ∀ j, m.testBit j = true → Path ops i j) →
    ∀ i m, (masks acc l)[i]? = some m → ∀ j, m.testBit j = true → Path ops i j
  | [], acc, _, h => h
  | o :: l, acc, hl, h => by
    unfold masks
    refine masks_path l _ (fun q => ?_) (fun i m hi j hj => ?_)
    · have := hl (q + 1)
      simp only [List.getElem?_cons_succ] at this
      rw [this]; simp; congr 1; omega
    · by_cases hia : i < acc.length
      · rw [List.getElem?_append_left hia] at hi
        exact h i m hi j hj
      · have hlt := (List.getElem?_eq_some_iff.1 hi).1
        simp at hlt
        have : i = acc.length := by omega
        subst this
        simp at hi
        subst hi
        exact maskOf_path h (by have := hl 0; simpa using this.symm) j hj

def regionOK (ops : Array Oper) : Bool :=
  let ms := masks [] ops.toList
  (List.range ops.size).all fun i =>
    ((ops.getD i default).after.all fun e => !Region.binds .any e || decide (e.on < i)) &&
    (List.range i).all fun j => (ms.getD i 0).testBit j || indepOps ops j i

theorem takeWhile_lt {i : Nat} : ∀ (l : List Nat), l.Pairwise (· < ·) → i ∈ l → ∀ j ∈ l.takeWhile (· != i), j < i
  | [], _, hi, _, _ => by simp at hi
  | k :: l, hp, hi, j, hj => by
    rw [List.takeWhile_cons] at hj
    split at hj
    · rename_i hk
      have hki : k ≠ i := by simpa using hk
      have hi' : i ∈ l := (List.mem_cons.1 hi).resolve_left fun h => hki h.symm
      rcases List.mem_cons.1 hj with h | h
      · subst h; exact (List.pairwise_cons.1 hp).1 i hi'
      · exact takeWhile_lt l (List.pairwise_cons.1 hp).2 hi' j h
    · simp at hj

theorem wpAny_of_run (hP : PF P) (hS : Sound P Sg) (hok : regionOK ops = true) {n0 : Nat} {Q : Exit → Act → World → Prop} {sf : St} :
    ∀ (fuel : Nat) (listed : Array Bool) (rem : List Nat) (s : St) (V : Vw) (a : Act) (w : World), listed.size = ops.size →
      rem = (List.range ops.size).filter (fun k => !listed.getD k true) → rem.length = fuel →
      (∀ i o, ops[i]? = some o → listed.getD i true = true → ∀ e ∈ o.after, Region.binds .any e = true → listed.getD e.on false = true) →
      n0 ≤ s.L.length → runD P Sg n0 ops rem s = some sf → RelS V s a w →
      (∀ a' w' V', RelS V' sf a' w' → SX V s.L w V' sf.L w' → Q .normal a' w') → wpAny P .any ops Q fuel listed a w := by
  have hok' := hok
  unfold regionOK at hok'
  simp only [List.all_eq_true, List.mem_range, Bool.and_eq_true] at hok'
  have hlow : ∀ i o, ops[i]? = some o → ∀ e ∈ o.after, Region.binds .any e = true → e.on < i := by
    intro i o ho e he hb
    have hi : i < ops.size := (Array.getElem?_eq_some_iff.1 ho).1
    have := (hok' i hi).1
    have e0 : ops.getD i default = o := by simp [Array.getD_eq_getD_getElem?, ho]
    rw [e0] at this
    have := Array.all_eq_true_iff_forall_mem.1 this e he
    simp [hb] at this
    exact this
  have hmask : ∀ i j, i < ops.size → j < i → ((masks [] ops.toList).getD i 0).testBit j = true → Path ops i j := by
    intro i j hi hj h
    cases hm : (masks [] ops.toList)[i]? with
    | none => simp [List.getD_eq_getElem?_getD, hm] at h
    | some m =>
      simp [List.getD_eq_getElem?_getD, hm] at h
      exact masks_path ops.toList [] (by simp) (by simp) i m hm j h
  intro fuel
  induction fuel with
  | zero =>
    intro listed rem s V a w hsz hrem hlen hdown hn hrun hrel hQ
    have hnil : rem = [] := List.eq_nil_of_length_eq_zero hlen
    subst hnil
    simp [runD] at hrun
    subst hrun
    refine ⟨?_, hQ a w V hrel (.refl _ _ _)⟩
    cases hr : Region.ready .any ops listed with
    | nil => rfl
    | cons i l =>
      have hi : i ∈ Region.ready .any ops listed := by rw [hr]; simp
      obtain ⟨h0, o, ho, _⟩ := mem_ready.1 hi
      have hlt : i < ops.size := (Array.getElem?_eq_some_iff.1 ho).1
      have : i ∈ (List.range ops.size).filter (fun k => !listed.getD k true) := by simp only [List.mem_filter, List.mem_range, hlt, true_and]; rw [h0]; rfl
      rw [← hrem] at this
      simp at this
  | succ fuel ih =>
    intro listed rem s V a w hsz hrem hlen hdown hn hrun hrel hQ
    refine ⟨fun hr => ?_, fun i hi => ?_⟩
    · -- something is ready
      exfalso
      cases hr2 : rem with
      | nil => rw [hr2] at hlen; simp at hlen
      | cons k l =>
        have hk : k ∈ (List.range ops.size).filter (fun k => !listed.getD k true) := by rw [← hrem, hr2]; simp
        simp only [List.mem_filter, List.mem_range] at hk
        have hfirst : ∀ m, m < k → listed.getD m true = true := by
          intro m hm
          cases hlm : listed.getD m true with
          | true => rfl
          | false =>
            have hmem : m ∈ rem := by rw [hrem]; simp only [List.mem_filter, List.mem_range]; exact ⟨by omega, by rw [hlm]; rfl⟩
            have hsorted : rem.Pairwise (· < ·) := by rw [hrem]; exact List.Pairwise.filter _ List.pairwise_lt_range
            rw [hr2] at hsorted hmem
            rcases List.mem_cons.1 hmem with h | h
            · omega
            · have := (List.pairwise_cons.1 hsorted).1 m h; omega
        have hkr : k ∈ Region.ready .any ops listed := by
          refine mem_ready.2 ⟨by simpa using hk.2, ops[k], Array.getElem?_eq_getElem hk.1, fun e he hb => ?_⟩
          have h1 := hlow k _ (Array.getElem?_eq_getElem hk.1) e he hb
          have h2 := hfirst e.on h1
          have : e.on < listed.size := by omega
          simpa [Array.getD_eq_getD_getElem?, this] using h2
        rw [hr] at hkr
        simp at hkr
    · obtain ⟨h0, o, ho, hall⟩ := mem_ready.1 hi
      have hlt : i < ops.size := (Array.getElem?_eq_some_iff.1 ho).1
      have hmem : i ∈ rem := by rw [hrem]; simp only [List.mem_filter, List.mem_range]; exact ⟨hlt, by rw [h0]; rfl⟩
      have hnd : rem.Nodup := by rw [hrem]; exact List.Pairwise.filter _ (List.nodup_range (n := _))
      have hsorted : rem.Pairwise (· < ·) := by rw [hrem]; exact List.Pairwise.filter _ List.pairwise_lt_range
      -- no path from a ready operation to one that is not listed
      have hpath : ∀ i' j, Path ops i' j → (∀ o', ops[i']? = some o' → ∀ e ∈ o'.after, Region.binds .any e = true → listed.getD e.on false = true) → listed.getD j false = true := by
        intro i' j hp
        induction hp with
        | edge h1 h2 h3 h4 => intro h; rw [← h4]; exact h _ h1 _ h2 h3
        | @more i'' j'' o'' e'' h1 h2 h3 h4 ih4 =>
          intro h
          have hl := h _ h1 _ h2 h3
          refine ih4 fun o' ho' e he hb => hdown _ _ ho' ?_ e he hb
          have : e''.on < listed.size := by
            rcases Nat.lt_or_ge e''.on listed.size with h | h
            · exact h
            · simp [Array.getD_eq_getD_getElem?, Array.getElem?_eq_none h] at hl
          simpa [Array.getD_eq_getD_getElem?, this] using hl
      have hbefore : ∀ j ∈ rem.takeWhile (· != i), indepOps ops j i = true := by
        intro j hj
        have hjr : j ∈ rem := (List.takeWhile_prefix _).subset hj
        have hjlt : j < i := takeWhile_lt rem hsorted hmem j hj
        have h1 := (hok' i hlt).2 j hjlt
        simp only [Bool.or_eq_true] at h1
        rcases h1 with h1 | h1
        · have hp := hmask i j hlt hjlt h1
          have := hpath i j hp (fun o' ho' e he hb => by rw [ho] at ho'; cases ho'; exact hall e he hb)
          rw [hrem] at hjr
          simp only [List.mem_filter, List.mem_range] at hjr
          have hjs : j < listed.size := by omega
          simp [Array.getD_eq_getD_getElem?, hjs] at this hjr
          rw [this] at hjr
          simp at hjr
        · exact h1
      obtain ⟨s', d1, d2⟩ := runD_take rem s sf hn hmem hnd hbefore hrun
      have hrem' : rem.erase i = (List.range ops.size).filter (fun k => !(listed.setIfInBounds i true).getD k true) := by
        rw [List.Nodup.erase_eq_filter hnd, hrem, List.filter_filter]
        apply List.filter_congr
        intro k hk
        by_cases hki : k = i
        · subst hki
          simp [Array.getD_eq_getD_getElem?, hsz, hlt]
        · rw [getD_set_ne true (fun h => hki h.symm)]
          simp [hki]
      have hnext : ∀ a' w' V', RelS V' s' a' w' → SX V s.L w V' s'.L w' → wpAny P .any ops Q fuel (listed.setIfInBounds i true) a' w' := fun a' w' V' g1 g2 =>
        ih (listed.setIfInBounds i true) (rem.erase i) s' V' a' w' (by simpa using hsz) hrem' (by rw [List.length_erase_of_mem hmem]; omega)
          (fun k ok hok1 hk e he hb => by
            by_cases hki : k = i
            · subst hki
              rw [ho] at hok1; cases hok1
              exact getD_set_true (hall e he hb)
            · rw [getD_set_ne true (fun h => hki h.symm)] at hk
              exact getD_set_true (hdown k ok hok1 hk e he hb))
          (Nat.le_trans hn (stepD_len d1)) d2 g1 (fun a'' w'' V'' k1 k2 => hQ a'' w'' V'' k1 (g2.trans k2))
      unfold wpOp
      simp only [ho]
      unfold stepD at d1
      simp only [ho] at d1
      split at d1
      · rename_i b hb
        have hw := wanted_sound hrel hb
        cases b with
        | true =>
          rw [if_pos hw]
          simp only [if_true, Option.map_eq_some_iff] at d1
          obtain ⟨⟨v, L'⟩, e1, rfl⟩ := d1
          exact .inl (evD_wp hP hS hrel e1 fun a' w' V' g1 g2 => hnext a' w' V' g1 g2)
        | false =>
          rw [if_neg (by simp [hw])]
          simp only [Bool.false_eq_true, if_false, Option.some.injEq] at d1
          subst d1
          exact hnext _ w V (hrel.put hrel.rel (.refl _ _) (.refl _) (.tup _ _ rfl (by simp)) o.dst) (.refl _ _ _)
      · simp at d1

end Go.Ev
namespace Go.Ev
open Go Go.RowKit
variable [Gl] [Lit]

variable {P : Program} {Sg : FuncId → Option (List AV → Option AV)}

def AW (P : Program) (c : Code) (Q : Exit → St → Prop) (s : St) : Prop :=
  ∀ (V : Vw) (a : Act) (w : World), RelS V s a w → c.wp P (fun e a' w' => ∃ s' V', Q e s' ∧ RelS V' s' a' w' ∧ SX V s.L w V' s'.L w') a w

def thenA (K : St → Prop) (Q : Exit → St → Prop) : Exit → St → Prop
  | .normal, s => K s
  | e, s => Q e s
def blockA (id : Nat) (Q : Exit → St → Prop) : Exit → St → Prop
  | .exit j, s => if j = id then Q .normal s else Q (.exit j) s
  | e, s => Q e s

theorem AW.mono {c : Code} {Q Q' : Exit → St → Prop} {s : St} (h : AW P c Q s) (hq : ∀ e s, Q e s → Q' e s) : AW P c Q' s :=
  fun V a w hr => wp_mono (h V a w hr) fun _ _ _ ⟨s', V', h1, h2, h3⟩ => ⟨s', V', hq _ _ h1, h2, h3⟩

theorem AW.skip {Q : Exit → St → Prop} {s : St} (h : Q .normal s) : AW P .skip Q s := fun V _ _ hr => wp_skip ⟨s, V, h, hr, .refl _ _ _⟩
theorem AW.ret {Q : Exit → St → Prop} {s : St} (h : Q .ret s) : AW P .ret Q s := fun V _ _ hr => wp_ret ⟨s, V, h, hr, .refl _ _ _⟩
theorem AW.exit {id : Nat} {Q : Exit → St → Prop} {s : St} (h : Q (.exit id) s) : AW P (.exit id) Q s := fun V _ _ hr => wp_exit ⟨s, V, h, hr, .refl _ _ _⟩
theorem AW.label {id : Nat} {Q : Exit → St → Prop} {s : St} (h : Q .normal s) : AW P (.label id) Q s := fun V _ _ hr => wp_label ⟨s, V, h, hr, .refl _ _ _⟩

theorem AW.seq {x y : Code} {Q : Exit → St → Prop} {s : St} (h : AW P x (thenA (AW P y Q) Q) s) : AW P (.seq x y) Q s := by
  intro V a w hr
  refine wp_seq (wp_mono (h V a w hr) fun e a' w' ⟨s', V', h1, h2, h3⟩ => ?_)
  cases e with
  | normal =>
    refine wp_mono (h1 V' a' w' h2) fun e a'' w'' ⟨s'', V'', k1, k2, k3⟩ => ⟨s'', V'', k1, k2, h3.trans k3⟩
  | _ => exact ⟨s', V', h1, h2, h3⟩

theorem AW.cond {c : Operand} {x y : Code} {t : Bool} {Q : Exit → St → Prop} {s : St} (hc : s.ρ c = .bool t) (h : if t = true then AW P x Q s else AW P y Q s) : AW P (.cond c x y) Q s := by
  intro V a w hr
  have h1 := hr.ρ c
  rw [hc] at h1
  cases t with
  | true => exact wp_cond_true h1.bool_inv (h V a w hr)
  | false => exact wp_cond_false h1.bool_inv (h V a w hr)

theorem AW.block {id : Nat} {c : Code} {Q : Exit → St → Prop} {s : St} (h : AW P c (blockA id Q) s) : AW P (.block id c) Q s := by
  intro V a w hr
  refine wp_block (wp_mono (h V a w hr) fun e a' w' ⟨s', V', h1, h2, h3⟩ => ?_)
  cases e with
  | exit j =>
    simp only [blockA, Exit.inBlock] at *
    split
    · rename_i hj; rw [if_pos hj] at h1; exact ⟨s', V', h1, h2, h3⟩
    · rename_i hj; rw [if_neg hj] at h1; exact ⟨s', V', h1, h2, h3⟩
  | _ => exact ⟨s', V', h1, h2, h3⟩

theorem AW.region (hP : PF P) (hS : Sound P Sg) {id : Nat} {l : List Oper} {Q : Exit → St → Prop} {s : St} (h : AOps P Sg l.toArray l (Q .normal) s) : AW P (.region id l.toArray false) Q s :=
  fun V a w hr => wp_region_lit (AOps_wp hP hS l (Q .normal) s V a w hr h fun s' _ _ V' h1 h2 h3 => ⟨s', V', h1, h2, h3⟩)

theorem AW.loop {c : Code} {Q : Exit → St → Prop} (Inv : Nat → St → Prop) {n0 : Nat} {s : St} (h0 : Inv n0 s) (hstep : ∀ n s, Inv n s → AW P c (thenA (fun s' => ∃ m, m < n ∧ Inv m s') Q) s) : AW P (.loop c) Q s := by
  intro V a w hr
  refine wp_loop_ghost (fun n a' w' => ∃ s' V', Inv n s' ∧ RelS V' s' a' w' ∧ SX V s.L w V' s'.L w') n0 ⟨s, V, h0, hr, .refl _ _ _⟩ ?_
  rintro n a' w' ⟨s', V', h1, h2, h3⟩
  refine wp_mono (hstep n s' h1 V' a' w' h2) ?_
  rintro e a'' w'' ⟨s'', V'', k1, k2, k3⟩
  cases e with
  | normal =>
    obtain ⟨m, hm, hi⟩ := k1
    exact ⟨m, hm, s'', V'', hi, k2, h3.trans k3⟩
  | _ => exact ⟨s'', V'', k1, k2, h3.trans k3⟩


def resA (P : Program) (fn : Func) (s : St) : Option AV :=
  let one : ResultVar → Option AV := fun
    | .tmp t => some (s.t.getD t .any)
    | .cell a t => match s.t.getD a .any, tagg P t, tsize P t with
      | .ptr b ver i off, some g, some n => (match s.L[b]? with
        | some k => if k.l.length = ver ∧ i < ver then evRd g n off (k.l.getD i .any).cells else none
        | none => none)
      | _, _, _ => none
  match fn.results.toList with
  | [] => some (.tup [])
  | [r] => one r
  | [r1, r2] => (one r1).bind fun x => (one r2).map fun y => .tup [x, y]
  | [r1, r2, r3] => (one r1).bind fun x => (one r2).bind fun y => (one r3).map fun z => .tup [x, y, z]
  | [r1, r2, r3, r4] => (one r1).bind fun x => (one r2).bind fun y => (one r3).bind fun z => (one r4).map fun q => .tup [x, y, z, q]
  | [r1, r2, r3, r4, r5] => (one r1).bind fun x => (one r2).bind fun y => (one r3).bind fun z => (one r4).bind fun q => (one r5).map fun p => .tup [x, y, z, q, p]
  | _ => none

def oneRes (tmps : Array Value) : ResultVar → Sem Value := fun
  | .tmp t => pure (tmps.getD t undef)
  | .cell a t => do loadVar t (← asAddr (tmps.getD a undef))

theorem one_sound {V : Vw} {s : St} {a : Act} {w : World} (h : RelS V s a w) (r : ResultVar) {v : AV}
    (hv : (match r with
    | .tmp t => some (s.t.getD t .any)
    | .cell a t => match s.t.getD a .any, tagg P t, tsize P t with
      | .ptr b ver i off, some g, some n => (match s.L[b]? with
        | some k => if k.l.length = ver ∧ i < ver then evRd g n off (k.l.getD i .any).cells else none
        | none => none)
      | _, _, _ => none) = some v) : ∃ u, (oneRes a.tmps r).run P w = .ok u w ∧ R V.I V.J (rfOf V.m s.L) w v u := by
  cases r with
  | tmp t =>
    simp only [Option.some.injEq] at hv
    subst hv
    exact ⟨_, rfl, h.ρ (.tmp t)⟩
  | cell c t =>
    simp only at hv
    have h1 := h.ρ (.tmp c)
    simp only [St.ρ, Act.eval] at h1
    split at hv
    · rename_i b ver i off g n hp hg hn
      rw [hp] at h1
      split at hv
      · rename_i k hk
        split at hv
        · rename_i hc
          obtain ⟨x, hx, _⟩ := h.rel.entry hk
          obtain ⟨h2, h3⟩ := h1.ptr_inv hk hx hc.1
          obtain ⟨u, h4, h5⟩ := evRd_sound (P := P) (t := t) (h.rel.cellsAt hk hx (by omega)) hg hn hv
          refine ⟨u, ?_, h5⟩
          simp only [Instr.loadAt, Instr.sureAddr, Sem.run_bind, Sem.run_pure, Result.andThen_ok] at h4
          simp only [oneRes, h2, asAddr, Sem.run_bind, Sem.run_pure, Result.andThen_ok]
          exact h4
        · simp at hv
      · simp at hv
    · simp at hv

theorem resA_sound {V : Vw} {s : St} {a : Act} {w : World} (h : RelS V s a w) {fn : Func} {v : AV} (hv : resA P fn s = some v) :
    ∃ u, (results fn a.tmps).run P w = .ok u w ∧ R V.I V.J (rfOf V.m s.L) w v u := by
  have hres : results fn a.tmps = (do let vs ← fn.results.mapM (oneRes a.tmps); pure (if h : vs.size = 1 then vs[0] else .tuple vs)) := rfl
  obtain ⟨rs, hrs⟩ : ∃ rs : List ResultVar, fn.results = rs.toArray := ⟨fn.results.toList, by simp⟩
  rw [hres, hrs]
  unfold resA at hv
  rw [hrs] at hv
  simp only at hv
  rw [List.mapM_toArray]
  split at hv
  · simp at hv; subst hv
    exact ⟨.tuple #[], by simp, .tup _ _ rfl (by simp)⟩
  · rename_i r
    obtain ⟨u, h1, h2⟩ := one_sound (P := P) h r hv
    exact ⟨u, by simp [h1], h2⟩
  · rename_i r1 r2
    simp only [Option.bind_eq_some_iff, Option.map_eq_some_iff] at hv
    obtain ⟨x, hx, y, hy, rfl⟩ := hv
    obtain ⟨u1, a1, a2⟩ := one_sound (P := P) h r1 hx
    obtain ⟨u2, b1, b2⟩ := one_sound (P := P) h r2 hy
    refine ⟨.tuple #[u1, u2], by simp [a1, b1], .tup _ _ rfl fun i hi => ?_⟩
    match i, hi with
    | 0, _ => exact a2
    | 1, _ => exact b2
  · rename_i r1 r2 r3
    simp only [Option.bind_eq_some_iff, Option.map_eq_some_iff] at hv
    obtain ⟨x, hx, y, hy, z, hz, rfl⟩ := hv
    obtain ⟨u1, a1, a2⟩ := one_sound (P := P) h r1 hx
    obtain ⟨u2, b1, b2⟩ := one_sound (P := P) h r2 hy
    obtain ⟨u3, c1, c2⟩ := one_sound (P := P) h r3 hz
    refine ⟨.tuple #[u1, u2, u3], by simp [a1, b1, c1], .tup _ _ rfl fun i hi => ?_⟩
    match i, hi with
    | 0, _ => exact a2
    | 1, _ => exact b2
    | 2, _ => exact c2
  · rename_i r1 r2 r3 r4
    simp only [Option.bind_eq_some_iff, Option.map_eq_some_iff] at hv
    obtain ⟨x, hx, y, hy, z, hz, q, hq, rfl⟩ := hv
    obtain ⟨u1, a1, a2⟩ := one_sound (P := P) h r1 hx
    obtain ⟨u2, b1, b2⟩ := one_sound (P := P) h r2 hy
    obtain ⟨u3, c1, c2⟩ := one_sound (P := P) h r3 hz
    obtain ⟨u4, d1, d2⟩ := one_sound (P := P) h r4 hq
    refine ⟨.tuple #[u1, u2, u3, u4], by simp [a1, b1, c1, d1], .tup _ _ rfl fun i hi => ?_⟩
    match i, hi with
    | 0, _ => exact a2
    | 1, _ => exact b2
    | 2, _ => exact c2
    | 3, _ => exact d2
  · rename_i r1 r2 r3 r4 r5
    simp only [Option.bind_eq_some_iff, Option.map_eq_some_iff] at hv
    obtain ⟨x, hx, y, hy, z, hz, q, hq, p, hp, rfl⟩ := hv
    obtain ⟨u1, a1, a2⟩ := one_sound (P := P) h r1 hx
    obtain ⟨u2, b1, b2⟩ := one_sound (P := P) h r2 hy
    obtain ⟨u3, c1, c2⟩ := one_sound (P := P) h r3 hz
    obtain ⟨u4, d1, d2⟩ := one_sound (P := P) h r4 hq
    obtain ⟨u5, e1, e2⟩ := one_sound (P := P) h r5 hp
    refine ⟨.tuple #[u1, u2, u3, u4, u5], by simp [a1, b1, c1, d1, e1], .tup _ _ rfl fun i hi => ?_⟩
    match i, hi with
    | 0, _ => exact a2
    | 1, _ => exact b2
    | 2, _ => exact c2
    | 3, _ => exact d2
    | 4, _ => exact e2
  · simp at hv


inductive Own : AV → Prop
  | any : Own .any
  | int (k n) : Own (.int k n)
  | bool (b) : Own (.bool b)
  | str (s) : Own (.str s)
  | nilP : Own .nilP
  | ifc (b) : Own (.ifc b)
  | ds0 (tag) : Own (.ds tag [])
  | ds (tag l) : 0 < tag → (∀ x ∈ l, ∀ c ∈ x.cells, Own c) → Own (.ds tag l)
  | agg (l) : (∀ x ∈ l, Own x) → Own (.agg l)
  | tup (l) : (∀ x ∈ l, Own x) → Own (.tup l)

theorem getD_mem {l : List AV} {i : Nat} (h : i < l.length) : l.getD i .any ∈ l := by simp [h]

theorem R.own {I J : Nat → Prop} {w : World} {x : AV} {v : Value} (h : R I J (fun _ => none) w x v) (ho : Own x) : R (fun _ => False) J (fun _ => none) w x v := by
  induction h with
  | any v => exact .any v
  | int k n => exact .int k n
  | bool b => exact .bool b
  | str s => exact .str s
  | nilS a => exact .nilS a
  | ds0 tag a cap h => exact .ds0 tag a cap h
  | ds tag l blk o cap esz vs h1 h2 h3 h4 h5 _ h7 h8 ih =>
    cases ho with
    | ds0 => exact absurd rfl h3
    | ds _ _ ht hc =>
      exact .ds tag l blk o cap esz vs h1 (.inr (h1 ht)) h3 h4 h5 (fun i j hi hj => ih i j hi hj (hc _ (getD_mem hi) _ (getD_mem (by rw [h4 i hi]; exact hj)))) h7 h8
  | sl b ver off len cap v e _ h1 => simp at h1
  | agg l arr h1 _ ih =>
    cases ho with
    | agg _ hc => exact .agg l arr h1 fun i hi => ih i hi (hc _ (getD_mem hi))
  | tup l arr h1 _ ih =>
    cases ho with
    | tup _ hc => exact .tup l arr h1 fun i hi => ih i hi (hc _ (getD_mem hi))
  | ptr b ver i off v e _ h1 => simp at h1
  | dptr => cases ho
  | nilP => exact .nilP
  | ifcN => exact .ifcN
  | ifcS t p => exact .ifcS t p
  | fn => cases ho

def DoneQ (P : Program) (fn : Func) (K : AV → List Blk → Prop) : Exit → St → Prop
  | .normal, s | .ret, s => ∃ rv, resA P fn s = some rv ∧ K rv s.L
  | _, _ => False

theorem initS {V : Vw} {L : List Blk} {w : World} (hr : Rel V L w) {args : List AV} {vs : Array Value} (hl : vs.size = args.length)
    (hx : ∀ i, i < args.length → R V.I V.J (rfOf V.m L) w (args.getD i .any) (vs.getD i undef)) (n : Nat) :
    RelS V ⟨args ++ List.replicate (n - args.length) .any, L⟩ { tmps := vs ++ Array.replicate (n - vs.size) undef, defers := [] } w := by
  refine ⟨hr, rfl, by simp [hl], fun i hi => ?_⟩
  by_cases h : i < args.length
  · have e1 : (args ++ List.replicate (n - args.length) AV.any).getD i .any = args.getD i .any := by
      simp only [List.getD_eq_getElem?_getD]; rw [List.getElem?_append_left h]
    have e2 : (vs ++ Array.replicate (n - vs.size) undef).getD i undef = vs.getD i undef := by
      simp only [Array.getD_eq_getD_getElem?]; rw [Array.getElem?_append_left (by omega)]
    rw [e1, e2]; exact hx i h
  · have e1 : (args ++ List.replicate (n - args.length) AV.any).getD i .any = .any := by
      simp only [List.getD_eq_getElem?_getD]; rw [List.getElem?_append_right (by omega)]
      rw [List.getElem?_replicate]
      split <;> rfl
    rw [e1]; exact .any _

theorem CSpec.intro {f : FuncId} {fn : Func} {c : Code} (hf : P.funcs[f]? = some fn) (hb : fn.body = some c) {args : List AV} {r : AV} (hown : Own r)
    (h : AW P c (DoneQ P fn fun rv L => exp 1 L rv = r) ⟨args ++ List.replicate (fn.ntmps - args.length) .any, []⟩) : CSpec P f args r := by
  intro I w vs hl hx hI hG
  let V : Vw := ⟨w.heap.size, I, fun _ => False, []⟩
  have hrel : Rel V [] w := ⟨rfl, by simp, by simp [V], by simp [V], hI, fun _ h => h.elim, Nat.le_refl _, by simp, hG⟩
  have hrf : rfOf V.m [] = fun _ => none := by funext b; simp [rfOf]
  have hs := initS hrel hl (fun i hi => by rw [hrf]; exact hx i hi) fn.ntmps
  refine calls_of_wp hf hb (wp_mono (h V _ w hs) ?_)
  rintro e a' w' ⟨s', V', h1, h2, h3⟩
  have fin : (∃ rv, resA P fn s' = some rv ∧ exp 1 s'.L rv = r) → a'.defers = [] ∧ ∃ v, (results fn a'.tmps).run P w' = .ok v w' ∧
      ∃ u, ∃ J' : Nat → Prop, Ending.returned v = .returned u ∧ Below w.heap.size w w' ∧ (∀ x, J' x → w.heap.size ≤ x ∧ x < w'.heap.size) ∧ R (fun _ => False) J' (fun _ => none) w' r u := by
    rintro ⟨rv, k1, k2⟩
    obtain ⟨u, g1, g2⟩ := resA_sound h2 k1
    have hB : V'.B = w.heap.size := h3.1.B
    refine ⟨h2.defers, u, g1, u, fun x => V'.J x ∨ ∃ (b : Nat) (e : Nat × Nat × Nat), V'.m[b]? = some e ∧ e.1 = x, rfl, ⟨h3.1.os, h3.1.tape, h3.1.output, h3.1.size, fun k hk => (h3.1.keep k hk (by simp [V])).1⟩, fun x hx => ?_, ?_⟩
    · rcases hx with hx | ⟨b, e, he, rfl⟩
      · have := h2.rel.Jlt x hx; omega
      · have := (h2.rel.fresh b e he).1; have := h2.rel.blt he; omega
    · have := exp_sound (I' := V'.I) (J' := fun x => V'.J x ∨ ∃ (b : Nat) (e : Nat × Nat × Nat), V'.m[b]? = some e ∧ e.1 = x) (rf' := fun _ => none) (L0 := s'.L) h2.rel 1 (by omega) (fun x hx => .inl hx) (fun x hx => .inr (.inl hx)) (fun b e he => .inr (.inr ⟨b, e, he, rfl⟩)) (fun _ _ h => h)
        (fun _ x hx => .inl hx) (fun _ b e he => .inr ⟨b, e, he, rfl⟩) rv u g2
      rw [k2] at this
      exact this.own hown
  cases e with
  | normal =>
    obtain ⟨d1, v, d2, d3⟩ := fin h1
    exact ⟨d1, v, d2, d3⟩
  | ret =>
    obtain ⟨d1, v, d2, d3⟩ := fin h1
    exact ⟨d1, v, d2, d3⟩
  | _ => exact h1.elim

theorem ISpec.intro {f : FuncId} {fn : Func} {c : Code} (hf : P.funcs[f]? = some fn) (hb : fn.body = some c) {args : List AV} {L : List Blk} {K : AV → List Blk → Prop}
    (h : AW P c (DoneQ P fn K) ⟨args ++ List.replicate (fn.ntmps - args.length) .any, L⟩) : ISpec P f args L K := by
  intro V w vs hrel hl hx
  have hs := initS hrel hl hx fn.ntmps
  refine calls_of_wp hf hb (wp_mono (h V _ w hs) ?_)
  rintro e a' w' ⟨s', V', h1, h2, h3⟩
  have fin : (∃ rv, resA P fn s' = some rv ∧ K rv s'.L) → a'.defers = [] ∧ ∃ v, (results fn a'.tmps).run P w' = .ok v w' ∧
      ∃ u r L' V', Ending.returned v = .returned u ∧ K r L' ∧ Rel V' L' w' ∧ Step V w V' w' ∧ rfExt (rfOf V.m L) (rfOf V'.m L') ∧ R V'.I V'.J (rfOf V'.m L') w' r u := by
    rintro ⟨rv, k1, k2⟩
    obtain ⟨u, g1, g2⟩ := resA_sound h2 k1
    exact ⟨h2.defers, u, g1, u, rv, s'.L, V', rfl, k2, h2.rel, h3.1, h3.2, g2⟩
  cases e with
  | normal =>
    obtain ⟨d1, v, d2, d3⟩ := fin h1
    exact ⟨d1, v, d2, d3⟩
  | ret =>
    obtain ⟨d1, v, d2, d3⟩ := fin h1
    exact ⟨d1, v, d2, d3⟩
  | _ => exact h1.elim

end Go.Ev
namespace Go.Ev
open Go Go.RowKit
variable [Gl] [Lit]

variable {P : Program}

def gcStep (n : Nat) (L : List Blk) (f : AV → AV) : AV → AV
  | .sl b ver off len cap => if b < n then .sl b ver off len cap else match L[b]? with
    | some k => if k.l.length = ver ∧ off + len ≤ ver then .ds 1 (((k.l.drop off).take len).map (expE f)) else .any
    | none => .any
  | .ds tag l => .ds tag (l.map (expE f))
  | .nilS => .nilS
  | .int k m => .int k m
  | .bool b => .bool b
  | .str s => .str s
  | .nilP => .nilP
  | .ptr b ver i off => if b < n then .ptr b ver i off else .any
  | .fn g caps => .fn g (caps.map f)
  | _ => .any
def gcC (n : Nat) (L : List Blk) : AV → AV := gcStep n L (gcStep n L (gcStep n L (gcStep n L fun _ => .any)))
def gcV (n : Nat) (L : List Blk) : AV → AV
  | .tup l => .tup (l.map (expE (gcC n L)))
  | x => expE (gcC n L) x
def gcB (n : Nat) (L : List Blk) (k : Blk) : Blk := ⟨k.esz, k.l.map (expE (gcC n L))⟩
def gcS (n : Nat) (s : St) : St := ⟨s.t.map (gcV n s.L), (s.L.take n).map (gcB n s.L)⟩
def gcW (n : Nat) (V : Vw) : Vw := ⟨V.B, V.I, fun x => V.J x ∨ ∃ (b : Nat) (e : Nat × Nat × Nat), n ≤ b ∧ V.m[b]? = some e ∧ e.1 = x, V.m.take n⟩

theorem gcStep_noAgg (n : Nat) (L : List Blk) (f : AV → AV) : NoAgg (gcStep n L f) := by
  intro x l
  unfold gcStep
  split <;> (try split) <;> (try split) <;> (try split) <;> simp

theorem gc_rf {V : Vw} {L : List Blk} {n b : Nat} {g : Blk → Blk} (hg : ∀ k, (g k).l.length = k.l.length ∧ (g k).esz = k.esz) (hb : b < n) :
    rfOf (gcW n V).m ((L.take n).map g) b = rfOf V.m L b := by
  unfold rfOf gcW
  simp only [List.getElem?_map, List.getElem?_take, hb, if_true]
  cases hL : L[b]? with
  | none => simp
  | some k =>
    simp only [Option.map_some]
    cases hm : V.m[b]? with
    | none => simp
    | some x => simp [(hg k).1, (hg k).2]

section
variable {V : Vw} {L : List Blk} {w : World} (hr : Rel V L w) (n : Nat) {rf' : Nat → Option E}
  (hrf : ∀ b, b < n → rf' b = rfOf V.m L b)
include hr hrf

theorem gcStep_sound {f : AV → AV} (hf : ∀ x v, R V.I V.J (rfOf V.m L) w x v → R V.I (gcW n V).J rf' w (f x) v) (hn : NoAgg f) (x : AV) (v : Value)
    (h : R V.I V.J (rfOf V.m L) w x v) : R V.I (gcW n V).J rf' w (gcStep n L f x) v := by
  unfold gcStep
  split
  · rename_i b ver off len cap
    split
    · rename_i hbn
      cases h with
      | sl _ _ _ _ _ _ e a0 a1 a2 a3 => exact .sl b ver off len cap v e a0 (by rw [hrf b hbn]; exact a1) a2 a3
    · rename_i hbn
      split
      · rename_i k hk
        split
        · rename_i hc
          obtain ⟨hv, hle⟩ := hc
          obtain ⟨xm, hx, _⟩ := hr.entry hk
          obtain ⟨a, cap', rfl, c1, c2, c3, c4, c5⟩ := h.sl_inv hk hx hv
          have hnl : ((k.l.drop off).take len).length = len := by simp; omega
          by_cases h0 : len = 0
          · subst h0
            simp only [List.take_zero, List.map_nil]
            exact .ds0 _ _ _ (by omega)
          · obtain ⟨c, ty, d1, d2, d3, d4, d5⟩ := hr.blk b k xm hk hx
            rw [c3 (by omega)]
            have hg : ∀ i, i < len → ((k.l.drop off).take len).getD i .any = k.l.getD (off + i) .any := fun i hi => by
              simp only [List.getD_eq_getElem?_getD, List.getElem?_take, hi, if_true, List.getElem?_drop]
            have hmul : (off + len) * k.esz ≤ k.l.length * k.esz := Nat.mul_le_mul_right _ (by omega)
            rw [Nat.add_mul] at hmul
            have hlen2 : (((k.l.drop off).take len).map (expE f)).length = len := by rw [List.length_map]; exact hnl
            have hJ : (gcW n V).J xm.1 := .inr ⟨b, xm, by omega, hx, rfl⟩
            have := R.ds (I := V.I) (J := (gcW n V).J) (rf := rf') (w := w) 1 (((k.l.drop off).take len).map (expE f)) xm.1 (xm.2.1 + off * k.esz) cap' k.esz (fun p => c.getD (xm.2.1 + off * k.esz + p) undef)
              (fun _ => hJ) (.inr hJ) (fun h => by rw [h] at hlen2; simp at hlen2; omega)
              (fun i hi => by
                rw [hlen2] at hi
                rw [map_getD _ _ _ (by omega), hn.cells, hg i hi, List.length_map]; exact d4 _ (by omega))
              (fun p hp => by
                rw [hlen2] at hp
                exact cell_of_block d1 (by omega))
              (fun i j hi hj => by
                rw [hlen2] at hi
                have hij := d4 (off + i) (by omega)
                rw [map_getD _ _ _ (by omega), hn.cells, hg i hi, map_getD _ _ _ (by omega)]
                have := hf _ _ (d5 (off + i) j (by omega) hj)
                rw [Nat.add_mul] at this
                rw [show xm.2.1 + off * k.esz + (i * k.esz + j) = xm.2.1 + (off * k.esz + i * k.esz) + j by omega]
                exact this) (by omega) (by omega)
            rw [hlen2] at this
            exact this
        · exact .any _
      · exact .any _
  · rename_i tag l
    cases h with
    | ds0 _ a cap a8 => exact .ds0 _ _ _ a8
    | ds _ _ b o cap esz vs a1 a2 a3 a4 a5 a6 a7 a8 =>
      have := R.ds (I := V.I) (J := (gcW n V).J) (rf := rf') (w := w) tag (l.map (expE f)) b o cap esz vs
        (fun h => .inl (a1 h)) (a2.imp id .inl) (by simpa using a3)
        (fun i hi => by
          rw [List.length_map] at hi
          rw [map_getD _ _ _ hi, hn.cells, List.length_map]; exact a4 i hi)
        (fun p hp => by
          rw [List.length_map] at hp
          exact a5 p hp)
        (fun i j hi hj => by
          rw [List.length_map] at hi
          have hij := a4 i hi
          rw [map_getD _ _ _ hi, hn.cells, map_getD _ _ _ (by omega)]
          exact hf _ _ (a6 i j hi hj)) (by simpa using a7) (by simpa using a8)
      rw [List.length_map] at this
      exact this
  · cases h with
    | nilS a => exact .nilS a
  · rw [h.int_inv]; exact .int _ _
  · rw [h.bool_inv]; exact .bool _
  · rw [h.str_inv]; exact .str _
  · cases h; exact .nilP
  · rename_i b ver i off
    split
    · rename_i hbn
      cases h with
      | ptr _ _ _ _ _ e a0 a1 a2 a3 => exact .ptr b ver i off v e a0 (by rw [hrf b hbn]; exact a1) a2 a3
    · exact .any _
  · rename_i g caps
    cases h with
    | fn _ _ arr a1 a2 =>
      refine .fn _ _ _ (by simpa using a1) fun i hi => ?_
      rw [List.length_map] at hi
      rw [map_getD _ _ _ hi]
      exact hf _ _ (a2 i hi)
  · exact .any _

theorem gcC_sound (x : AV) (v : Value) (h : R V.I V.J (rfOf V.m L) w x v) : R V.I (gcW n V).J rf' w (gcC n L x) v := by
  unfold gcC
  refine gcStep_sound hr n hrf (fun x v h => ?_) (gcStep_noAgg _ _ _) x v h
  refine gcStep_sound hr n hrf (fun x v h => ?_) (gcStep_noAgg _ _ _) x v h
  refine gcStep_sound hr n hrf (fun x v h => ?_) (gcStep_noAgg _ _ _) x v h
  exact gcStep_sound hr n hrf (fun x v _ => .any _) (fun x l => by simp) x v h

theorem gcE_sound (x : AV) (v : Value) (h : R V.I V.J (rfOf V.m L) w x v) : R V.I (gcW n V).J rf' w (expE (gcC n L) x) v := by
  have hc := gcC_sound hr n hrf
  unfold expE
  split
  · cases h with
    | agg l arr h1 h2 =>
      refine .agg _ _ (by simp [h1]) fun i hi => ?_
      rw [List.length_map] at hi
      rw [map_getD _ _ _ hi]
      exact hc _ _ (h2 i hi)
  · exact hc _ _ h

theorem gcV_sound (x : AV) (v : Value) (h : R V.I V.J (rfOf V.m L) w x v) : R V.I (gcW n V).J rf' w (gcV n L x) v := by
  have hc := gcE_sound hr n hrf
  unfold gcV
  split
  · cases h with
    | tup l arr h1 h2 =>
      refine .tup _ _ (by simp [h1]) fun i hi => ?_
      rw [List.length_map] at hi
      rw [map_getD _ _ _ hi]
      exact hc _ _ (h2 i hi)
  · exact hc _ _ h
end

theorem gcC_noAgg (n : Nat) (L : List Blk) : NoAgg (gcC n L) := gcStep_noAgg _ _ _
theorem gcB_len (n : Nat) (L : List Blk) (k : Blk) : (gcB n L k).l.length = k.l.length ∧ (gcB n L k).esz = k.esz := by simp [gcB]

theorem gc_rel {V : Vw} {L : List Blk} {w : World} (hr : Rel V L w) (n : Nat) : Rel (gcW n V) ((L.take n).map (gcB n L)) w := by
  have hrf : ∀ b, b < n → rfOf (gcW n V).m ((L.take n).map (gcB n L)) b = rfOf V.m L b := fun b hb => gc_rf (gcB_len n L) hb
  refine ⟨by simp [gcW, hr.len], fun b k x hk hx => ?_, fun b x hx => ?_, fun b b' x x' hx hx' he => ?_, hr.Ilt, fun x hx => ?_, hr.Bsz, fun b k x hk hx he => ?_, hr.glob⟩
  · simp only [gcW, List.getElem?_take, List.getElem?_map] at hk hx
    split at hx
    · rename_i hb
      simp only [hb, if_true, Option.map_eq_some_iff] at hk
      obtain ⟨k0, hk0, rfl⟩ := hk
      obtain ⟨c, ty, a1, a2, a3, a4, a5⟩ := hr.blk b k0 x hk0 hx
      refine ⟨c, ty, a1, a2, by simpa [gcB] using a3, fun i hi => ?_, fun i j hi hj => ?_⟩
      · simp only [gcB, List.length_map] at hi ⊢
        rw [map_getD _ _ _ hi, (gcC_noAgg n L).cells, List.length_map]
        exact a4 i hi
      · simp only [gcB, List.length_map] at hi hj ⊢
        have := a4 i hi
        rw [map_getD _ _ _ hi, (gcC_noAgg n L).cells, map_getD _ _ _ (by omega)]
        exact gcC_sound hr n hrf _ _ (a5 i j hi hj)
    · simp at hx
  · simp only [gcW, List.getElem?_take] at hx
    split at hx
    · rename_i hb
      have h1 := hr.fresh b x hx
      refine ⟨h1.1, h1.2.1, ?_⟩
      rintro (h | ⟨b', e, hb', he, hxe⟩)
      · exact h1.2.2 h
      · have := hr.inj b' b e x he hx hxe; omega
    · simp at hx
  · simp only [gcW, List.getElem?_take] at hx hx'
    split at hx
    · split at hx'
      · exact hr.inj b b' x x' hx hx' he
      · simp at hx'
    · simp at hx
  · rcases hx with hx | ⟨b, e, _, he, rfl⟩
    · exact hr.Jlt x hx
    · exact ⟨(hr.fresh b e he).1, hr.blt he⟩
  · simp only [gcW, List.getElem?_take, List.getElem?_map] at hk hx
    split at hx
    · rename_i hb
      simp only [hb, if_true, Option.map_eq_some_iff] at hk
      obtain ⟨k0, hk0, rfl⟩ := hk
      exact hr.big b k0 x hk0 hx (by simpa [gcB] using he)
    · simp at hx

theorem gc_step (V : Vw) (w : World) (n : Nat) : Step V w (gcW n V) w :=
  ⟨rfl, rfl, fun _ h => .inl h, fun x _ hm => ⟨rfl, fun b e he => by
    simp only [gcW, List.getElem?_take] at he
    split at he
    · exact hm b e he
    · simp at he, fun h => h.elim id fun ⟨b, e, _, he, hx⟩ => absurd hx (hm b e he)⟩, Nat.le_refl _, rfl, rfl, rfl⟩

theorem gc_relS {V : Vw} {s : St} {a : Act} {w : World} (h : RelS V s a w) (n : Nat) : RelS (gcW n V) (gcS n s) a w := by
  refine ⟨gc_rel h.rel n, h.defers, by simp [gcS, h.size], fun i hi => ?_⟩
  simp only [gcS, List.length_map] at hi ⊢
  rw [map_getD _ _ _ hi]
  exact gcV_sound h.rel n (fun b hb => gc_rf (gcB_len n s.L) hb) _ _ (h.tmps i hi)

theorem rfOf_lt {m : List (Nat × Nat × Nat)} {L : List Blk} {b : Nat} {e : E} (h : rfOf m L b = some e) : b < L.length := by
  unfold rfOf at h
  split at h
  · rename_i hk _; exact (List.getElem?_eq_some_iff.1 hk).1
  · simp at h

theorem gc_sx {V0 V : Vw} {L0 : List Blk} {w0 w : World} {s : St} {n : Nat} (hn : L0.length ≤ n) (h : SX V0 L0 w0 V s.L w) : SX V0 L0 w0 (gcW n V) (gcS n s).L w := by
  refine ⟨h.1.trans (gc_step V w n), fun b e he => ?_⟩
  obtain ⟨e', h1, h2, h3⟩ := h.2 b e he
  have hb := rfOf_lt he
  exact ⟨e', by rw [← h1]; exact gc_rf (gcB_len n s.L) (by omega), h2, h3⟩

end Go.Ev
namespace Go.Ev
open Go Go.RowKit
variable [Gl] [Lit]

variable {P : Program} {Sg : FuncId → Option (List AV → Option AV)}

def opS (P : Program) (Sg : FuncId → Option (List AV → Option AV)) (n0 : Nat) (ops : Array Oper) (o : Oper) (s : St) : Option St :=
  match wantedA ops s.t o with
  | some true => (evD P Sg n0 s.ρ s.L o.op).map fun r => ⟨AV.put s.t o.dst r.1, r.2⟩
  | some false => some ⟨AV.put s.t o.dst (.tup []), s.L⟩
  | none => none
def runS (P : Program) (Sg : FuncId → Option (List AV → Option AV)) (n0 : Nat) (ops : Array Oper) : List Oper → St → Option St
  | [], s => some s
  | o :: r, s => (opS P Sg n0 ops o s).bind (runS P Sg n0 ops r)
def thenQ (o : Option St) (K : St → Prop) : Prop :=
  match o with
  | some s => K s
  | none => False
def condQ (c : AV) (K1 K2 : St → Prop) (s : St) : Prop :=
  match c with
  | .bool true => K1 s
  | .bool false => K2 s
  | _ => False
theorem condQ_true (K1 K2 : St → Prop) (s : St) : condQ (.bool true) K1 K2 s = K1 s := rfl
theorem condQ_false (K1 K2 : St → Prop) (s : St) : condQ (.bool false) K1 K2 s = K2 s := rfl
theorem condQ_split {t : Bool} {K1 K2 : St → Prop} {s : St} (h1 : t = true → K1 s) (h2 : t = false → K2 s) : condQ (.bool t) K1 K2 s := by
  cases t
  · exact h2 rfl
  · exact h1 rfl

def GOK (n : Nat) (G : St → St → Prop) : Prop := ∀ (s s' : St) (V : Vw) (a : Act) (w : World), G s s' → RelS V s a w →
  ∃ V', RelS V' s' a w ∧ ∀ (V0 : Vw) (L0 : List Blk) (w0 : World), L0.length ≤ n → SX V0 L0 w0 V s.L w → SX V0 L0 w0 V' s'.L w
theorem GOK.eq (n : Nat) : GOK n Eq := by
  rintro s s' V a w rfl h
  exact ⟨V, h, fun _ _ _ _ h => h⟩
theorem GOK.gc {n g : Nat} (hg : n ≤ g) : GOK n fun s s' => s' = gcS g s := by
  rintro s s' V a w rfl h
  exact ⟨gcW g V, gc_relS h g, fun V0 L0 w0 hl hs => gc_sx (Nat.le_trans hl hg) hs⟩
theorem AW.loopR {c : Code} {Q : Exit → St → Prop} {G : St → St → Prop} (Inv : Nat → St → Prop) {n0 : Nat} {s : St} (hG : GOK s.L.length G) (h0 : Inv n0 s)
    (hstep : ∀ n s, Inv n s → AW P c (thenA (fun s' => ∃ m, m < n ∧ ∃ s'', G s' s'' ∧ Inv m s'') Q) s) : AW P (.loop c) Q s := by
  intro V a w hr
  refine wp_loop_ghost (fun n a' w' => ∃ s' V', Inv n s' ∧ RelS V' s' a' w' ∧ SX V s.L w V' s'.L w') n0 ⟨s, V, h0, hr, .refl _ _ _⟩ ?_
  rintro n a' w' ⟨s', V', h1, h2, h3⟩
  refine wp_mono (hstep n s' h1 V' a' w' h2) ?_
  rintro e a'' w'' ⟨s'', V'', k1, k2, k3⟩
  cases e with
  | normal =>
    obtain ⟨m, hm, t, ht, hi⟩ := k1
    obtain ⟨W, g1, g2⟩ := hG s'' t V'' a'' w'' ht k2
    exact ⟨m, hm, t, W, hi, g1, g2 _ _ _ (Nat.le_refl _) (h3.trans k3)⟩
  | _ => exact ⟨s'', V'', k1, k2, h3.trans k3⟩

def LoopQ (body : (Exit → St → Prop) → St → Prop) (Q : Exit → St → Prop) (s : St) : Prop :=
  ∃ (Inv : Nat → St → Prop) (n0 : Nat) (G : St → St → Prop), GOK s.L.length G ∧ Inv n0 s ∧ ∀ n s, Inv n s → body (thenA (fun s' => ∃ m, m < n ∧ ∃ s'', G s' s'' ∧ Inv m s'') Q) s
theorem LoopQ.intro {body : (Exit → St → Prop) → St → Prop} {Q : Exit → St → Prop} {s : St} (Inv : Nat → St → Prop) (n0 : Nat) (h0 : Inv n0 s)
    (h : ∀ n s, Inv n s → body (thenA (fun s' => ∃ m, m < n ∧ Inv m s') Q) s) : LoopQ body Q s := by
  refine ⟨Inv, n0, Eq, GOK.eq _, h0, fun n s hi => ?_⟩
  have e : (fun s' => ∃ m, m < n ∧ ∃ s'', s' = s'' ∧ Inv m s'') = fun s' => ∃ m, m < n ∧ Inv m s' := by funext s'; simp
  rw [e]; exact h n s hi
theorem LoopQ.gc {body : (Exit → St → Prop) → St → Prop} {Q : Exit → St → Prop} {s : St} (g : Nat) (Inv : Nat → St → Prop) (n0 : Nat) (hg : s.L.length ≤ g) (h0 : Inv n0 s)
    (h : ∀ n s, Inv n s → body (thenA (fun s' => ∃ m, m < n ∧ Inv m (gcS g s')) Q) s) : LoopQ body Q s := by
  refine ⟨Inv, n0, _, GOK.gc hg, h0, fun n s hi => ?_⟩
  have e : (fun s' => ∃ m, m < n ∧ ∃ s'', s'' = gcS g s' ∧ Inv m s'') = fun s' => ∃ m, m < n ∧ Inv m (gcS g s') := by funext s'; simp
  rw [e]; exact h n s hi

def someQ (o : Option (AV × List Blk)) (K : AV → List Blk → Prop) : Prop :=
  match o with
  | some r => K r.1 r.2
  | none => False
theorem someQ_some (r : AV × List Blk) (K : AV → List Blk → Prop) : someQ (some r) K = K r.1 r.2 := rfl
def wantQ (b : Option Bool) (K : Bool → Prop) : Prop :=
  match b with
  | some c => K c
  | none => False
theorem wantQ_t (K : Bool → Prop) : wantQ (some true) K = K true := rfl
theorem wantQ_f (K : Bool → Prop) : wantQ (some false) K = K false := rfl
def runQ (P : Program) (Sg : FuncId → Option (List AV → Option AV)) (n0 : Nat) (ops : Array Oper) (l : List Oper) (K : St → Prop) (s : St) : Prop := thenQ (runS P Sg n0 ops l s) K
def runK (P : Program) (Sg : FuncId → Option (List AV → Option AV)) (n0 : Nat) (ops : Array Oper) (dst : Option Tmp) (r : List Oper) (K : St → Prop) (t : List AV) (v : AV) (L : List Blk) : Prop :=
  runQ P Sg n0 ops r K ⟨AV.put t dst v, L⟩
def stepK (P : Program) (Sg : FuncId → Option (List AV → Option AV)) (n0 : Nat) (ops : Array Oper) (o : Oper) (r : List Oper) (K : St → Prop) (t : List AV) (L : List Blk) (c : Bool) : Prop :=
  if c = true then someQ (evD P Sg n0 (St.ρ ⟨t, L⟩) L o.op) (runK P Sg n0 ops o.dst r K t) else runQ P Sg n0 ops r K ⟨AV.put t o.dst (.tup []), L⟩
theorem stepK_t {n0 : Nat} {ops : Array Oper} {o : Oper} {r : List Oper} {K : St → Prop} {t : List AV} {L : List Blk} : stepK P Sg n0 ops o r K t L true = someQ (evD P Sg n0 (St.ρ ⟨t, L⟩) L o.op) (runK P Sg n0 ops o.dst r K t) := rfl
theorem stepK_f {n0 : Nat} {ops : Array Oper} {o : Oper} {r : List Oper} {K : St → Prop} {t : List AV} {L : List Blk} : stepK P Sg n0 ops o r K t L false = runQ P Sg n0 ops r K ⟨AV.put t o.dst (.tup []), L⟩ := rfl
theorem runQ_nil {n0 : Nat} {ops : Array Oper} {K : St → Prop} {s : St} : runQ P Sg n0 ops [] K s = K s := rfl
theorem runQ_cons {n0 : Nat} {ops : Array Oper} {o : Oper} {r : List Oper} {K : St → Prop} {t : List AV} {L : List Blk} :
    runQ P Sg n0 ops (o :: r) K ⟨t, L⟩ = wantQ (wantedA ops t o) (stepK P Sg n0 ops o r K t L) := by
  unfold runQ runS opS
  simp only
  cases hw : wantedA ops t o with
  | none => rfl
  | some b =>
    cases b with
    | false => simp only [Option.bind_some, wantQ_f, stepK_f]; rfl
    | true =>
      simp only [wantQ_t, stepK_t]
      cases hd : evD P Sg n0 (St.ρ ⟨t, L⟩) L o.op with
      | none => rfl
      | some v => rfl
def RegQ (ops : Array Oper) (K : Prop) : Prop := regionOK ops = true ∧ K
theorem RegQ.intro {ops : Array Oper} {K : Prop} (h : regionOK ops = true) (k : K) : RegQ ops K := ⟨h, k⟩
theorem wantQ_split {c : Bool} {K : Bool → Prop} (h1 : c = true → K true) (h2 : c = false → K false) : wantQ (some c) K := by
  cases c
  · exact h2 rfl
  · exact h1 rfl
theorem wantQ_dec {c : Prop} [Decidable c] {K : Bool → Prop} (h1 : c → K true) (h2 : ¬ c → K false) : wantQ (some (decide c)) K :=
  wantQ_split (fun h => h1 (of_decide_eq_true h)) (fun h => h2 (of_decide_eq_false h))
theorem wantQ_beq {a b : Int} {K : Bool → Prop} (h1 : a = b → K true) (h2 : ¬ a = b → K false) : wantQ (some (a == b)) K :=
  wantQ_split (fun h => h1 (by simpa using h)) (fun h => h2 (by simpa using h))
def notK (K : Bool → Prop) (c : Bool) : Prop := K (!c)
theorem notK_t (K : Bool → Prop) : notK K true = K false := rfl
theorem notK_f (K : Bool → Prop) : notK K false = K true := rfl
theorem wantQ_not {c : Bool} {K : Bool → Prop} : wantQ (some (!c)) K = wantQ (some c) (notK K) := by cases c <;> rfl
theorem condQ_dec {c : Prop} [Decidable c] {K1 K2 : St → Prop} {s : St} (h1 : c → K1 s) (h2 : ¬ c → K2 s) : condQ (.bool (decide c)) K1 K2 s :=
  condQ_split (fun h => h1 (of_decide_eq_true h)) (fun h => h2 (of_decide_eq_false h))
theorem condQ_beq {a b : Int} {K1 K2 : St → Prop} {s : St} (h1 : a = b → K1 s) (h2 : ¬ a = b → K2 s) : condQ (.bool (a == b)) K1 K2 s :=
  condQ_split (fun h => h1 (by simpa using h)) (fun h => h2 (by simpa using h))
theorem condQ_not {c : Bool} {K1 K2 : St → Prop} {s : St} : condQ (.bool (!c)) K1 K2 s = condQ (.bool c) K2 K1 s := by cases c <;> rfl

def InlQ (P : Program) (Sg : FuncId → Option (List AV → Option AV)) (ops : Array Oper) (l : List Oper) (K : St → Prop) (s : St) : Prop := AOps P Sg ops l K s

def vc (P : Program) (Sg : FuncId → Option (List AV → Option AV)) : Code → (Exit → St → Prop) → St → Prop
  | .skip, Q, s => Q .normal s
  | .label _, Q, s => Q .normal s
  | .ret, Q, s => Q .ret s
  | .exit id, Q, s => Q (.exit id) s
  | .seq a b, Q, s => vc P Sg a (thenA (vc P Sg b Q) Q) s
  | .cond c a b, Q, s => condQ (s.ρ c) (vc P Sg a Q) (vc P Sg b Q) s
  | .block id c, Q, s => vc P Sg c (blockA id Q) s
  | .region _ ops true, Q, s => RegQ ops (runQ P Sg s.L.length ops ops.toList (Q .normal) s)
  | .region _ ops false, Q, s => InlQ P Sg ops ops.toList (Q .normal) s
  | .loop c, Q, s => LoopQ (vc P Sg c) Q s
  | _, _, _ => False

theorem runS_run {n0 : Nat} {ops : Array Oper} : ∀ (l : List Oper) (k : Nat) (s sf : St), (∀ j, l[j]? = ops[k + j]?) → runS P Sg n0 ops l s = some sf →
    runD P Sg n0 ops (List.range' k l.length) s = some sf
  | [], k, s, sf, _, h => h
  | o :: l, k, s, sf, hl, h => by
    have h0 : ops[k]? = some o := by simpa using (hl 0).symm
    have hl' : ∀ j, l[j]? = ops[(k + 1) + j]? := fun j => by have := hl (j + 1); simpa [Nat.add_assoc, Nat.add_comm 1 j] using this
    simp only [runS, Option.bind_eq_some_iff] at h
    obtain ⟨s1, h1, h2⟩ := h
    simp only [List.length_cons, List.range'_succ, runD, Option.bind_eq_some_iff]
    refine ⟨s1, ?_, runS_run l (k + 1) s1 sf hl' h2⟩
    unfold opS at h1
    unfold stepD
    simp only [h0]
    split at h1
    · rename_i hw; simp only [hw, if_true]; exact h1
    · rename_i hw; simp only [hw, Bool.false_eq_true, if_false]; exact h1
    · simp at h1

theorem AW.drawS (hP : PF P) (hS : Sound P Sg) {id : Nat} {l : List Oper} {Q : Exit → St → Prop} {s : St} (hok : regionOK l.toArray = true) (h : thenQ (runS P Sg s.L.length l.toArray l s) (Q .normal)) :
    AW P (.region id l.toArray true) Q s := by
  cases hr : runS P Sg s.L.length l.toArray l s with
  | none => rw [hr] at h; exact h.elim
  | some sf =>
    rw [hr] at h
    have h1 := runS_run l 0 s sf (by simp) hr
    rw [← List.range_eq_range'] at h1
    intro V a w hrel
    refine wp_region_any hP.mixed (wpAny_of_run hP hS hok (n0 := s.L.length) (sf := sf) _ _ (List.range l.length) s V a _ (by simp) ?_ (by simp) ?_ (Nat.le_refl _) h1 (hrel.drawn _) ?_)
    · symm
      rw [List.filter_eq_self.2]
      · simp
      · intro k hk
        have hk' : k < l.length := by simpa using hk
        simp [Array.getD_eq_getD_getElem?, hk']
    · intro i o ho hli
      have hi : i < l.length := by
        have := (Array.getElem?_eq_some_iff.1 ho).1
        simpa using this
      simp [Array.getD_eq_getD_getElem?, hi] at hli
    · intro a' w' V' g1 g2
      exact ⟨sf, V', h, g1, ⟨(Step.drawn V w _).trans g2.1, g2.2⟩⟩

theorem InlQ_nil {ops : Array Oper} {K : St → Prop} {s : St} : InlQ P Sg ops [] K s = K s := rfl
def opQ (o : Option (AV × List Blk)) (inl : (AV → List Blk → Prop) → Prop) (K : AV → List Blk → Prop) : Prop :=
  match o with
  | some r => K r.1 r.2
  | none => inl K
theorem opQ_some (r : AV × List Blk) (inl : (AV → List Blk → Prop) → Prop) (K : AV → List Blk → Prop) : opQ (some r) inl K = K r.1 r.2 := rfl
theorem opQ_none (inl : (AV → List Blk → Prop) → Prop) (K : AV → List Blk → Prop) : opQ none inl K = inl K := rfl
def contK (P : Program) (Sg : FuncId → Option (List AV → Option AV)) (ops : Array Oper) (dst : Option Tmp) (r : List Oper) (K : St → Prop) (t : List AV) (v : AV) (L : List Blk) : Prop := InlQ P Sg ops r K ⟨AV.put t dst v, L⟩
theorem InlQ_guard {ops : Array Oper} {o : Oper} {r : List Oper} {K : St → Prop} {t : List AV} {L : List Blk} {b : Bool} (hw : wantedA ops t o = some b) :
    InlQ P Sg ops (o :: r) K ⟨t, L⟩ = if b = true then opQ (evD P Sg L.length (St.ρ ⟨t, L⟩) L o.op) (InlK P ⟨t, L⟩ o) (contK P Sg ops o.dst r K t) else InlQ P Sg ops r K ⟨AV.put t o.dst (.tup []), L⟩ := by
  unfold InlQ
  rw [AOps]
  simp only [hw]
  unfold OpK
  rw [evOp_evD]
  unfold opQ contK InlQ
  simp only
  cases evD P Sg L.length (St.ρ ⟨t, L⟩) L o.op <;> rfl

def inlK (P : Program) (Sg : FuncId → Option (List AV → Option AV)) (ops : Array Oper) (o : Oper) (r : List Oper) (K : St → Prop) (t : List AV) (L : List Blk) (c : Bool) : Prop :=
  if c = true then opQ (evD P Sg L.length (St.ρ ⟨t, L⟩) L o.op) (InlK P ⟨t, L⟩ o) (contK P Sg ops o.dst r K t) else InlQ P Sg ops r K ⟨AV.put t o.dst (.tup []), L⟩
theorem inlK_t {ops : Array Oper} {o : Oper} {r : List Oper} {K : St → Prop} {t : List AV} {L : List Blk} : inlK P Sg ops o r K t L true = opQ (evD P Sg L.length (St.ρ ⟨t, L⟩) L o.op) (InlK P ⟨t, L⟩ o) (contK P Sg ops o.dst r K t) := rfl
theorem inlK_f {ops : Array Oper} {o : Oper} {r : List Oper} {K : St → Prop} {t : List AV} {L : List Blk} : inlK P Sg ops o r K t L false = InlQ P Sg ops r K ⟨AV.put t o.dst (.tup []), L⟩ := rfl
theorem InlQ_step {ops : Array Oper} {o : Oper} {r : List Oper} {K : St → Prop} {t : List AV} {L : List Blk} :
    InlQ P Sg ops (o :: r) K ⟨t, L⟩ = wantQ (wantedA ops t o) (inlK P Sg ops o r K t L) := by
  cases hw : wantedA ops t o with
  | none => unfold InlQ; rw [AOps]; simp only [hw]; rfl
  | some b =>
    rw [InlQ_guard hw]
    cases b <;> rfl
theorem vc_sound (hP : PF P) (hS : Sound P Sg) : ∀ (c : Code) (Q : Exit → St → Prop) (s : St), vc P Sg c Q s → AW P c Q s
  | .skip, _, _, h => .skip h
  | .label _, _, _, h => .label h
  | .ret, _, _, h => .ret h
  | .exit _, _, _, h => .exit h
  | .seq a b, Q, s, h => .seq (AW.mono (vc_sound hP hS a _ s h) fun e s hq => by
      cases e with
      | normal => exact vc_sound hP hS b Q s hq
      | _ => exact hq)
  | .cond c a b, Q, s, h => by
    unfold vc condQ at h
    split at h
    · rename_i ht; exact .cond ht (by rw [if_pos rfl]; exact vc_sound hP hS a Q s h)
    · rename_i ht; exact .cond ht (by rw [if_neg (by simp)]; exact vc_sound hP hS b Q s h)
    · exact h.elim
  | .block id c, Q, s, h => .block (vc_sound hP hS c _ s h)
  | .region id ops draw, Q, s, h => by
    obtain ⟨l, rfl⟩ : ∃ l : List Oper, ops = l.toArray := ⟨ops.toList, by simp⟩
    cases draw with
    | true => exact .drawS hP hS h.1 h.2
    | false => exact .region hP hS h
  | .loop c, Q, s, h => by
    obtain ⟨Inv, n0, G, hG, h0, hs⟩ := h
    exact .loopR Inv hG h0 fun n s hi => vc_sound hP hS c _ s (hs n s hi)
  | .rangeFunc .., _, _, h => h.elim
  | .scope _, _, _, h => h.elim
  | .goto _, _, _, h => h.elim
  | .refuse _, _, _, h => h.elim

theorem vc_skip {Q : Exit → St → Prop} {s : St} : vc P Sg .skip Q s = Q .normal s := rfl
theorem vc_label {l : Nat} {Q : Exit → St → Prop} {s : St} : vc P Sg (.label l) Q s = Q .normal s := rfl
theorem vc_ret {Q : Exit → St → Prop} {s : St} : vc P Sg .ret Q s = Q .ret s := rfl
theorem vc_exit {id : Nat} {Q : Exit → St → Prop} {s : St} : vc P Sg (.exit id) Q s = Q (.exit id) s := rfl
theorem vc_seq {a b : Code} {Q : Exit → St → Prop} {s : St} : vc P Sg (.seq a b) Q s = vc P Sg a (thenA (vc P Sg b Q) Q) s := rfl
theorem vc_cond {c : Operand} {a b : Code} {Q : Exit → St → Prop} {s : St} : vc P Sg (.cond c a b) Q s = condQ (s.ρ c) (vc P Sg a Q) (vc P Sg b Q) s := rfl
theorem vc_block {id : Nat} {c : Code} {Q : Exit → St → Prop} {s : St} : vc P Sg (.block id c) Q s = vc P Sg c (blockA id Q) s := rfl
theorem vc_draw {id : Nat} {l : List Oper} {Q : Exit → St → Prop} {s : St} : vc P Sg (.region id l.toArray true) Q s = RegQ l.toArray (runQ P Sg s.L.length l.toArray l (Q .normal) s) := rfl
theorem vc_inl {id : Nat} {l : List Oper} {Q : Exit → St → Prop} {s : St} : vc P Sg (.region id l.toArray false) Q s = InlQ P Sg l.toArray l (Q .normal) s := rfl
theorem vc_loop {c : Code} {Q : Exit → St → Prop} {s : St} : vc P Sg (.loop c) Q s = LoopQ (vc P Sg c) Q s := rfl
theorem thenA_n {K : St → Prop} {Q : Exit → St → Prop} {s : St} : thenA K Q .normal s = K s := rfl
theorem thenA_r {K : St → Prop} {Q : Exit → St → Prop} {s : St} : thenA K Q .ret s = Q .ret s := rfl
theorem thenA_e {K : St → Prop} {Q : Exit → St → Prop} {id : Nat} {s : St} : thenA K Q (.exit id) s = Q (.exit id) s := rfl
theorem blockA_n {K : Exit → St → Prop} {id : Nat} {s : St} : blockA id K .normal s = K .normal s := rfl
theorem blockA_r {K : Exit → St → Prop} {id : Nat} {s : St} : blockA id K .ret s = K .ret s := rfl
theorem blockA_i {K : Exit → St → Prop} {id : Nat} {s : St} : blockA id K (.exit id) s = K .normal s := by simp [blockA]
theorem blockA_o {K : Exit → St → Prop} {id j : Nat} {s : St} (h : (j == id) = false) : blockA id K (.exit j) s = K (.exit j) s := by
  have : j ≠ id := by simpa using h
  simp [blockA, this]

abbrev i64 (n : Int) : AV := .int .i64 n
abbrev ints (tag : Nat) (l : List Int) : AV := .ds tag (l.map fun n => .int .i64 n)

theorem getD_ints {l : List Int} {k : Nat} (h : k < l.length) : (l.map fun n => AV.int .i64 n).getD k .any = .int .i64 (l.getD k 0) := by simp [h]
theorem wrap_in {n : Int} (h : -9223372036854775808 ≤ n ∧ n ≤ 9223372036854775807) : IntKind.i64.wrap n = n := IntWalk.i64_in n h
theorem wrap_succ {k : Nat} (h : k < 9223372036854775807) : IntKind.i64.wrap ((k : Int) + 1) = ((k + 1 : Nat) : Int) := by
  rw [wrap_in (by omega)]; omega
theorem take_succ_getD {l : List Int} {k : Nat} (h : k < l.length) : l.take (k + 1) = l.take k ++ [l.getD k 0] := by
  rw [List.take_succ_eq_append_getElem h]; simp [h]

theorem all_take {p : Int → Bool} {l : List Int} {k : Nat} (h : k < l.length) : (l.take (k + 1)).all p = ((l.take k).all p && p (l.getD k 0)) := by
  rw [take_succ_getD h]; simp
theorem all_false {p : Int → Bool} {l : List Int} {k : Nat} (h : k < l.length) (hp : p (l.getD k 0) = false) : l.all p = false := by
  rw [List.all_eq_false]
  exact ⟨l.getD k 0, by simp [h], by rw [hp]; simp⟩
end Go.Ev
namespace Go.Ev
open Go Go.RowKit
variable [Gl] [Lit]

class Enc (α : Type) where
  enc : Nat → α → AV
  dec : AV → Option α
  ok : ∀ x a, dec x = some a ↔ x = enc 0 a
  own : ∀ a, Own (enc 1 a)

open Enc

theorem Own.cells {x : AV} (h : Own x) : ∀ c ∈ x.cells, Own c := by
  intro c hc
  cases h with
  | agg l h => exact h c hc
  | any => simp only [AV.cells, List.mem_singleton] at hc; rw [hc]; exact .any
  | int k n => simp only [AV.cells, List.mem_singleton] at hc; rw [hc]; exact .int k n
  | bool b => simp only [AV.cells, List.mem_singleton] at hc; rw [hc]; exact .bool b
  | str b => simp only [AV.cells, List.mem_singleton] at hc; rw [hc]; exact .str b
  | nilP => simp only [AV.cells, List.mem_singleton] at hc; rw [hc]; exact .nilP
  | ifc b => simp only [AV.cells, List.mem_singleton] at hc; rw [hc]; exact .ifc b
  | ds0 t => simp only [AV.cells, List.mem_singleton] at hc; rw [hc]; exact .ds0 t
  | ds t l a b => simp only [AV.cells, List.mem_singleton] at hc; rw [hc]; exact .ds t l a b
  | tup l a => simp only [AV.cells, List.mem_singleton] at hc; rw [hc]; exact .tup l a

instance : Enc Int where
  enc _ n := .int .i64 n
  dec | .int .i64 n => some n
      | _ => none
  ok x a := by
    constructor
    · intro h; split at h <;> simp at h; rw [h]
    · rintro rfl; rfl
  own _ := .int _ _

instance : Enc Bool where
  enc _ b := .bool b
  dec | .bool b => some b
      | _ => none
  ok x a := by
    constructor
    · intro h; split at h <;> simp at h; rw [h]
    · rintro rfl; rfl
  own _ := .bool _

instance : Enc UInt8 where
  enc _ b := .int .u8 b.toNat
  dec | .int .u8 n => if 0 ≤ n ∧ n < 256 then some (UInt8.ofNat n.toNat) else none
      | _ => none
  ok x a := by
    constructor
    · intro h
      split at h
      · split at h
        · rename_i n hn
          simp at h
          rw [← h]
          simp
          omega
        · simp at h
      · simp at h
    · rintro rfl
      have := a.toNat_lt
      simp only
      rw [if_pos (by omega)]
      simp
  own _ := .int _ _

theorem mapM_ok {α : Type} [Enc α] : ∀ (l : List AV) (r : List α), l.mapM dec = some r ↔ l = r.map (enc 0)
  | [], r => by
    constructor
    · intro h; simp at h; subst h; rfl
    · intro h
      have : r = [] := by simpa using h.symm
      subst this; rfl
  | x :: l, r => by
    rw [List.mapM_cons]
    constructor
    · intro h
      simp only [Option.bind_eq_bind, Option.bind_eq_some_iff, Option.pure_def, Option.some.injEq] at h
      obtain ⟨a, ha, q, hq, rfl⟩ := h
      rw [(ok x a).1 ha, (mapM_ok l q).1 hq]; rfl
    · intro h
      cases r with
      | nil => simp at h
      | cons a q =>
        simp only [List.map_cons, List.cons.injEq] at h
        rw [(ok x a).2 h.1, (mapM_ok l q).2 h.2]; rfl

instance {α : Type} [Enc α] : Enc (List α) where
  enc t l := .ds t (l.map (enc t))
  dec | .ds 0 l => l.mapM dec
      | _ => none
  ok x a := by
    constructor
    · intro h
      split at h
      · rw [(mapM_ok _ _).1 h]
      · simp at h
    · rintro rfl
      exact (mapM_ok _ _).2 rfl
  own a := .ds _ _ (Nat.lt_succ_self 0) (by
    intro x hx c hc
    obtain ⟨y, _, rfl⟩ := List.mem_map.1 hx
    exact (own y).cells c hc)

instance {α β : Type} [Enc α] [Enc β] : Enc (α × β) where
  enc t p := .tup [enc t p.1, enc t p.2]
  dec | .tup [x, y] => (dec x).bind fun a => (dec y).map fun b => (a, b)
      | _ => none
  ok x a := by
    constructor
    · intro h
      split at h
      · simp only [Option.bind_eq_some_iff, Option.map_eq_some_iff] at h
        obtain ⟨p, hp, q, hq, rfl⟩ := h
        rw [(ok _ _).1 hp, (ok _ _).1 hq]
      · simp at h
    · rintro rfl
      show ((dec (enc 0 a.1)).bind fun p => (dec (enc 0 a.2)).map fun q => (p, q)) = some a
      rw [(ok _ a.1).2 rfl, (ok _ a.2).2 rfl]; rfl
  own a := .tup _ (by
    intro x hx
    simp only [List.mem_cons, List.not_mem_nil, or_false] at hx
    rcases hx with rfl | rfl
    · exact own _
    · exact own _)

variable {α β γ δ ε ζ : Type} [Enc α] [Enc β] [Enc γ] [Enc δ] [Enc ε] [Enc ζ]

def F0 (g : Option ζ) : List AV → Option AV
  | [] => g.map (enc 1)
  | _ => none
def F1 (g : α → Option ζ) : List AV → Option AV
  | [x] => (dec x).bind fun a => (g a).map (enc 1)
  | _ => none
def F2 (g : α → β → Option ζ) : List AV → Option AV
  | [x, y] => (dec x).bind fun a => (dec y).bind fun b => (g a b).map (enc 1)
  | _ => none
def F3 (g : α → β → γ → Option ζ) : List AV → Option AV
  | [x, y, z] => (dec x).bind fun a => (dec y).bind fun b => (dec z).bind fun c => (g a b c).map (enc 1)
  | _ => none
def F4 (g : α → β → γ → δ → Option ζ) : List AV → Option AV
  | [x, y, z, u] => (dec x).bind fun a => (dec y).bind fun b => (dec z).bind fun c => (dec u).bind fun d => (g a b c d).map (enc 1)
  | _ => none
def F5 (g : α → β → γ → δ → ε → Option ζ) : List AV → Option AV
  | [x, y, z, u, v] => (dec x).bind fun a => (dec y).bind fun b => (dec z).bind fun c => (dec u).bind fun d => (dec v).bind fun e => (g a b c d e).map (enc 1)
  | _ => none

variable {P : Program} {f : FuncId}
theorem F1_spec {g : α → Option ζ} (h : ∀ a r, g a = some r → CSpec P f [enc 0 a] (enc 1 r)) : ∀ args r, F1 g args = some r → CSpec P f args r := by
  intro args r hr
  unfold F1 at hr
  split at hr
  · simp only [Option.bind_eq_some_iff, Option.map_eq_some_iff] at hr
    obtain ⟨a, ha, q, hq, rfl⟩ := hr
    rw [(ok _ _).1 ha]; exact h a q hq
  · simp at hr
theorem F2_spec {g : α → β → Option ζ} (h : ∀ a b r, g a b = some r → CSpec P f [enc 0 a, enc 0 b] (enc 1 r)) : ∀ args r, F2 g args = some r → CSpec P f args r := by
  intro args r hr
  unfold F2 at hr
  split at hr
  · simp only [Option.bind_eq_some_iff, Option.map_eq_some_iff] at hr
    obtain ⟨a, ha, b, hb, q, hq, rfl⟩ := hr
    rw [(ok _ _).1 ha, (ok _ _).1 hb]; exact h a b q hq
  · simp at hr
theorem F3_spec {g : α → β → γ → Option ζ} (h : ∀ a b c r, g a b c = some r → CSpec P f [enc 0 a, enc 0 b, enc 0 c] (enc 1 r)) : ∀ args r, F3 g args = some r → CSpec P f args r := by
  intro args r hr
  unfold F3 at hr
  split at hr
  · simp only [Option.bind_eq_some_iff, Option.map_eq_some_iff] at hr
    obtain ⟨a, ha, b, hb, c, hc, q, hq, rfl⟩ := hr
    rw [(ok _ _).1 ha, (ok _ _).1 hb, (ok _ _).1 hc]; exact h a b c q hq
  · simp at hr
variable {Sg : FuncId → Option (List AV → Option AV)}
theorem spec1 {g : α → Option ζ} {fn : Func} {cd : Code} (hf : P.funcs[f]? = some fn) (hb : fn.body = some cd) (hP : PF P) (hS : Sound P Sg)
    (h : ∀ a r, g a = some r → vc P Sg cd (DoneQ P fn fun rv L => exp 1 L rv = enc 1 r) ⟨[enc 0 a] ++ List.replicate (fn.ntmps - [enc 0 a].length) .any, []⟩) :
    ∀ args r, F1 g args = some r → CSpec P f args r :=
  F1_spec fun a r hr => CSpec.intro hf hb (own r) (vc_sound hP hS _ _ _ (h a r hr))
theorem spec2 {g : α → β → Option ζ} {fn : Func} {cd : Code} (hf : P.funcs[f]? = some fn) (hb : fn.body = some cd) (hP : PF P) (hS : Sound P Sg)
    (h : ∀ a b r, g a b = some r → vc P Sg cd (DoneQ P fn fun rv L => exp 1 L rv = enc 1 r) ⟨[enc 0 a, enc 0 b] ++ List.replicate (fn.ntmps - [enc 0 a, enc 0 b].length) .any, []⟩) :
    ∀ args r, F2 g args = some r → CSpec P f args r :=
  F2_spec fun a b r hr => CSpec.intro hf hb (own r) (vc_sound hP hS _ _ _ (h a b r hr))
theorem spec3 {g : α → β → γ → Option ζ} {fn : Func} {cd : Code} (hf : P.funcs[f]? = some fn) (hb : fn.body = some cd) (hP : PF P) (hS : Sound P Sg)
    (h : ∀ a b c r, g a b c = some r → vc P Sg cd (DoneQ P fn fun rv L => exp 1 L rv = enc 1 r) ⟨[enc 0 a, enc 0 b, enc 0 c] ++ List.replicate (fn.ntmps - [enc 0 a, enc 0 b, enc 0 c].length) .any, []⟩) :
    ∀ args r, F3 g args = some r → CSpec P f args r :=
  F3_spec fun a b c r hr => CSpec.intro hf hb (own r) (vc_sound hP hS _ _ _ (h a b c r hr))
theorem LoopQ.intro2 {body : (Exit → St → Prop) → St → Prop} {Q : Exit → St → Prop} {t0 : List AV} {L0 : List Blk} (Inv : List AV → List Blk → Nat → St → Prop) (n0 : Nat) (h0 : Inv t0 L0 n0 ⟨t0, L0⟩)
    (h : ∀ n s, Inv t0 L0 n s → body (thenA (fun s' => ∃ m, m < n ∧ Inv t0 L0 m s') Q) s) : LoopQ body Q ⟨t0, L0⟩ := LoopQ.intro (Inv t0 L0) n0 h0 h
theorem LoopQ.introG {body : (Exit → St → Prop) → St → Prop} {Q : Exit → St → Prop} {t0 : List AV} {L0 : List Blk} (g : Nat) (Inv : List AV → List Blk → Nat → St → Prop) (n0 : Nat) (hg : L0.length ≤ g) (h0 : Inv t0 L0 n0 ⟨t0, L0⟩)
    (h : ∀ n s, Inv t0 L0 n s → body (thenA (fun s' => ∃ m, m < n ∧ Inv t0 L0 m (gcS g s')) Q) s) : LoopQ body Q ⟨t0, L0⟩ := LoopQ.gc g (Inv t0 L0) n0 hg h0 h
def InvQ (I : Nat → St → Prop) (n : Nat) (s : St) : Prop := ∃ m, m < n ∧ I m s
def InvG (I : Nat → St → Prop) (n g : Nat) (s : St) : Prop := ∃ m, m < n ∧ I m (gcS g s)
theorem InvG_eq (I : Nat → St → Prop) (n g : Nat) (t : List AV) (L : List Blk) : InvG I n g ⟨t, L⟩ = InvQ I n (gcS g ⟨t, L⟩) := rfl
theorem LoopQ.mix {body : (Exit → St → Prop) → St → Prop} {Q : Exit → St → Prop} {t0 : List AV} {L0 : List Blk} (Inv : List AV → List Blk → Nat → St → Prop) (h0 : ∃ n0, Inv t0 L0 n0 ⟨t0, L0⟩)
    (h : ∀ I : Nat → St → Prop, (∀ m s, Inv t0 L0 m s → I m s) → ∀ n s, Inv t0 L0 n s → body (thenA (InvQ I n) Q) s) : LoopQ body Q ⟨t0, L0⟩ := LoopQ.intro2 Inv h0.choose h0.choose_spec (h _ fun _ _ h => h)
theorem LoopQ.mixG {body : (Exit → St → Prop) → St → Prop} {Q : Exit → St → Prop} {t0 : List AV} {L0 : List Blk} (g : Nat) (Inv : List AV → List Blk → Nat → St → Prop) (hg : L0.length ≤ g) (h0 : ∃ n0, Inv t0 L0 n0 ⟨t0, L0⟩)
    (h : ∀ I : Nat → St → Prop, (∀ m s, Inv t0 L0 m s → I m s) → ∀ n s, Inv t0 L0 n s → body (thenA (InvG I n g) Q) s) : LoopQ body Q ⟨t0, L0⟩ := LoopQ.introG g Inv h0.choose hg h0.choose_spec (h _ fun _ _ h => h)
inductive Pt where
  | k
  | s
  | v (x : AV)
def mixL : Nat → List Pt → List AV → (Nat → AV) → List AV
  | _, [], _, _ => []
  | _, _ :: _, [], _ => []
  | j, .k :: p, a :: t, x => a :: mixL (j + 1) p t x
  | j, .s :: p, _ :: t, x => x j :: mixL (j + 1) p t x
  | j, .v b :: p, _ :: t, x => b :: mixL (j + 1) p t x
def mix2 : List Pt → List AV → List AV → List AV
  | .k :: p, a :: t, _ :: u => a :: mix2 p t u
  | .s :: p, _ :: t, b :: u => b :: mix2 p t u
  | .v b :: p, _ :: t, _ :: u => b :: mix2 p t u
  | [], _, _ => []
  | _ :: _, [], _ => []
  | _ :: _, _ :: _, [] => [.any]
theorem mixL_nil (j : Nat) (t : List AV) (x : Nat → AV) : mixL j [] t x = [] := by cases t <;> rfl
theorem mixL_k (j : Nat) (p : List Pt) (a : AV) (t : List AV) (x : Nat → AV) : mixL j (.k :: p) (a :: t) x = a :: mixL (j + 1) p t x := rfl
theorem mixL_s (j : Nat) (p : List Pt) (a : AV) (t : List AV) (x : Nat → AV) : mixL j (.s :: p) (a :: t) x = x j :: mixL (j + 1) p t x := rfl
theorem mixL_v (j : Nat) (b : AV) (p : List Pt) (a : AV) (t : List AV) (x : Nat → AV) : mixL j (.v b :: p) (a :: t) x = b :: mixL (j + 1) p t x := rfl
theorem mix2_mixL : ∀ (p : List Pt) (t u : List AV) (j : Nat) (x : Nat → AV), (∀ i, i < u.length → x (j + i) = u.getD i .any) → u = mix2 p t u → u = mixL j p t x
  | [], t, u, j, x, _, h => by rw [mixL_nil]; rw [h]; rfl
  | q :: p, [], u, j, x, _, h => by rw [h]; cases q <;> rfl
  | q :: p, a :: t, [], j, x, _, h => by cases q <;> simp [mix2] at h
  | q :: p, a :: t, b :: u, j, x, hx, h => by
    have h0 : x j = b := by have := hx 0 (by simp); simpa using this
    have hx' : ∀ i, i < u.length → x (j + 1 + i) = u.getD i .any := fun i hi => by
      have := hx (i + 1) (by simpa using hi)
      rw [show j + 1 + i = j + (i + 1) by omega, this]; rfl
    cases q with
    | k =>
      simp only [mix2, List.cons.injEq] at h
      rw [mixL_k, ← mix2_mixL p t u (j + 1) x hx' h.2, ← h.1]
    | s =>
      simp only [mix2, List.cons.injEq] at h
      rw [mixL_s, ← mix2_mixL p t u (j + 1) x hx' h.2, h0]
    | v c =>
      simp only [mix2, List.cons.injEq] at h
      rw [mixL_v, ← mix2_mixL p t u (j + 1) x hx' h.2, ← h.1]
theorem mixI {p : List Pt} {t u : List AV} {L : List Blk} (h : u = mix2 p t u) : ∃ x : Nat → AV, (⟨u, L⟩ : St) = ⟨mixL 0 p t x, L⟩ :=
  ⟨fun i => u.getD i .any, by rw [← mix2_mixL p t u 0 _ (fun i _ => by rw [Nat.zero_add]) h]⟩
theorem mixJ {p : List Pt} {t u : List AV} {L L' : List Blk} (h : u = mix2 p t u) (hL : L = L') : ∃ x : Nat → AV, (⟨u, L⟩ : St) = ⟨mixL 0 p t x, L'⟩ := by
  subst hL; exact mixI h
theorem beq_f {α : Type} [BEq α] [LawfulBEq α] {a b : α} (h : a ≠ b) : (a == b) = false := by simpa using h
theorem beq_t {α : Type} [BEq α] [LawfulBEq α] {a b : α} (h : a = b) : (a == b) = true := by simpa using h

theorem set_ints (l : List Int) (i : Nat) (x : Int) : (l.map fun n => AV.int .i64 n).set i (.int .i64 x) = (l.set i x).map fun n => .int .i64 n := by
  rw [List.map_set]
theorem rep_ints (n : Nat) (x : Int) : List.replicate n (AV.int .i64 x) = (List.replicate n x).map fun n => .int .i64 n := by
  rw [List.map_replicate]
theorem app_ints (l r : List Int) : (l.map fun n => AV.int .i64 n) ++ (r.map fun n => .int .i64 n) = (l ++ r).map fun n => .int .i64 n := by
  rw [List.map_append]
theorem app_int1 (l : List Int) (x : Int) : (l.map fun n => AV.int .i64 n) ++ [.int .i64 x] = (l ++ [x]).map fun n => .int .i64 n := by
  rw [List.map_append]; rfl
theorem take_map_f {α : Type} (f : α → AV) (l : List α) (k : Nat) : (l.map f).take k = (l.take k).map f := by rw [List.map_take]
theorem drop_map_f {α : Type} (f : α → AV) (l : List α) (k : Nat) : (l.map f).drop k = (l.drop k).map f := by rw [List.map_drop]

theorem get_app_add {α : Type} (G l : List α) (c : Nat) : (G ++ l)[G.length + c]? = l[c]? := by
  rw [List.getElem?_append_right (by omega)]; congr 1; omega
theorem get_app_len {α : Type} (G l : List α) : (G ++ l)[G.length]? = l[0]? := get_app_add G l 0
theorem set_app_add {α : Type} (G l : List α) (c : Nat) (y : α) : (G ++ l).set (G.length + c) y = G ++ l.set c y := by
  rw [List.set_append_right _ _ (by omega)]; congr 2; omega
theorem set_app_len {α : Type} (G l : List α) (y : α) : (G ++ l).set G.length y = G ++ l.set 0 y := set_app_add G l 0 y
theorem getD_intss {t : Nat} {l : List (List Int)} {k : Nat} (h : k < l.length) : (l.map fun r => AV.ds t (r.map fun n => .int .i64 n)).getD k .any = .ds t ((l.getD k []).map fun n => .int .i64 n) := by simp [h]

theorem evApp_gen {L : List Blk} {b n sz by' : Nat} {q new : List AV} (hL : L[b]? = some ⟨sz, q⟩) (hn : q.length = n) (h1 : (n + new.length) * by' ≤ 140737488355328) (h2 : n + new.length ≤ 9223372036854775807) :
    evApp L (.sl b n 0 n n) new sz by' = some (.sl b (n + new.length) 0 (n + new.length) (n + new.length), L.set b ⟨sz, q ++ new⟩) := by
  unfold evApp
  simp only [hL]
  rw [if_pos ⟨hn, trivial⟩]
  by_cases h : n + new.length ≤ n
  · have h0 : new = [] := List.eq_nil_of_length_eq_zero (by omega)
    subst h0
    rw [if_pos h]
    simp [overwrite, ← hn]
  · rw [if_neg h, if_pos ⟨trivial, trivial, h1, h2⟩]
theorem evApp_int {L : List Blk} {b n by' : Nat} {q : List Int} {x : Int} (hL : L[b]? = some ⟨1, q.map fun n => .int .i64 n⟩) (hn : q.length = n) (h1 : (n + 1) * by' ≤ 140737488355328) (h2 : n + 1 ≤ 9223372036854775807) :
    evApp L (.sl b n 0 n n) [.int .i64 x] 1 by' = some (.sl b (n + 1) 0 (n + 1) (n + 1), L.set b ⟨1, (q ++ [x]).map fun n => .int .i64 n⟩) := by
  rw [evApp_gen hL (by simpa using hn) h1 h2, app_int1]; rfl
theorem evApp_i0 {L : List Blk} {n by' : Nat} {q : List Int} {x : Int} (hn : q.length = n) (h1 : (n + 1) * by' ≤ 140737488355328) (h2 : n + 1 ≤ 9223372036854775807) :
    evApp (⟨1, q.map fun n => .int .i64 n⟩ :: L) (.sl 0 n 0 n n) [.int .i64 x] 1 by' = some (.sl 0 (n + 1) 0 (n + 1) (n + 1), ⟨1, (q ++ [x]).map fun n => .int .i64 n⟩ :: L) := evApp_int (L := ⟨1, q.map fun n => .int .i64 n⟩ :: L) (b := 0) rfl hn h1 h2
theorem evApp_s0 {L : List Blk} {n by' : Nat} {q r : List Int} (hn : q.length = n) (h1 : (n + r.length) * by' ≤ 140737488355328) (h2 : n + r.length ≤ 9223372036854775807) :
    evApp (⟨1, q.map fun n => .int .i64 n⟩ :: L) (.sl 0 n 0 n n) (r.map fun n => .int .i64 n) 1 by' = some (.sl 0 (n + r.length) 0 (n + r.length) (n + r.length), ⟨1, (q ++ r).map fun n => .int .i64 n⟩ :: L) := by
  rw [evApp_gen (q := q.map fun n => AV.int .i64 n) rfl (by simpa using hn) (by simpa using h1) (by simpa using h2), app_ints, List.length_map]; rfl
theorem evApp_i1 {B0 : Blk} {L : List Blk} {n by' : Nat} {q : List Int} {x : Int} (hn : q.length = n) (h1 : (n + 1) * by' ≤ 140737488355328) (h2 : n + 1 ≤ 9223372036854775807) :
    evApp (B0 :: ⟨1, q.map fun n => .int .i64 n⟩ :: L) (.sl 1 n 0 n n) [.int .i64 x] 1 by' = some (.sl 1 (n + 1) 0 (n + 1) (n + 1), B0 :: ⟨1, (q ++ [x]).map fun n => .int .i64 n⟩ :: L) := evApp_int (L := B0 :: ⟨1, q.map fun n => .int .i64 n⟩ :: L) (b := 1) rfl hn h1 h2
theorem evApp_s1 {B0 : Blk} {L : List Blk} {n by' : Nat} {q r : List Int} (hn : q.length = n) (h1 : (n + r.length) * by' ≤ 140737488355328) (h2 : n + r.length ≤ 9223372036854775807) :
    evApp (B0 :: ⟨1, q.map fun n => .int .i64 n⟩ :: L) (.sl 1 n 0 n n) (r.map fun n => .int .i64 n) 1 by' = some (.sl 1 (n + r.length) 0 (n + r.length) (n + r.length), B0 :: ⟨1, (q ++ r).map fun n => .int .i64 n⟩ :: L) := by
  rw [evApp_gen (q := q.map fun n => AV.int .i64 n) rfl (by simpa using hn) (by simpa using h1) (by simpa using h2), app_ints, List.length_map]; rfl
theorem evApp_i2 {B0 B1 : Blk} {L : List Blk} {n by' : Nat} {q : List Int} {x : Int} (hn : q.length = n) (h1 : (n + 1) * by' ≤ 140737488355328) (h2 : n + 1 ≤ 9223372036854775807) :
    evApp (B0 :: B1 :: ⟨1, q.map fun n => .int .i64 n⟩ :: L) (.sl 2 n 0 n n) [.int .i64 x] 1 by' = some (.sl 2 (n + 1) 0 (n + 1) (n + 1), B0 :: B1 :: ⟨1, (q ++ [x]).map fun n => .int .i64 n⟩ :: L) := evApp_int (L := B0 :: B1 :: ⟨1, q.map fun n => .int .i64 n⟩ :: L) (b := 2) rfl hn h1 h2
theorem evApp_s2 {B0 B1 : Blk} {L : List Blk} {n by' : Nat} {q r : List Int} (hn : q.length = n) (h1 : (n + r.length) * by' ≤ 140737488355328) (h2 : n + r.length ≤ 9223372036854775807) :
    evApp (B0 :: B1 :: ⟨1, q.map fun n => .int .i64 n⟩ :: L) (.sl 2 n 0 n n) (r.map fun n => .int .i64 n) 1 by' = some (.sl 2 (n + r.length) 0 (n + r.length) (n + r.length), B0 :: B1 :: ⟨1, (q ++ r).map fun n => .int .i64 n⟩ :: L) := by
  rw [evApp_gen (q := q.map fun n => AV.int .i64 n) rfl (by simpa using hn) (by simpa using h1) (by simpa using h2), app_ints, List.length_map]; rfl
theorem evApp_i3 {B0 B1 B2 : Blk} {L : List Blk} {n by' : Nat} {q : List Int} {x : Int} (hn : q.length = n) (h1 : (n + 1) * by' ≤ 140737488355328) (h2 : n + 1 ≤ 9223372036854775807) :
    evApp (B0 :: B1 :: B2 :: ⟨1, q.map fun n => .int .i64 n⟩ :: L) (.sl 3 n 0 n n) [.int .i64 x] 1 by' = some (.sl 3 (n + 1) 0 (n + 1) (n + 1), B0 :: B1 :: B2 :: ⟨1, (q ++ [x]).map fun n => .int .i64 n⟩ :: L) := evApp_int (L := B0 :: B1 :: B2 :: ⟨1, q.map fun n => .int .i64 n⟩ :: L) (b := 3) rfl hn h1 h2
theorem evApp_s3 {B0 B1 B2 : Blk} {L : List Blk} {n by' : Nat} {q r : List Int} (hn : q.length = n) (h1 : (n + r.length) * by' ≤ 140737488355328) (h2 : n + r.length ≤ 9223372036854775807) :
    evApp (B0 :: B1 :: B2 :: ⟨1, q.map fun n => .int .i64 n⟩ :: L) (.sl 3 n 0 n n) (r.map fun n => .int .i64 n) 1 by' = some (.sl 3 (n + r.length) 0 (n + r.length) (n + r.length), B0 :: B1 :: B2 :: ⟨1, (q ++ r).map fun n => .int .i64 n⟩ :: L) := by
  rw [evApp_gen (q := q.map fun n => AV.int .i64 n) rfl (by simpa using hn) (by simpa using h1) (by simpa using h2), app_ints, List.length_map]; rfl
theorem evApp_i4 {B0 B1 B2 B3 : Blk} {L : List Blk} {n by' : Nat} {q : List Int} {x : Int} (hn : q.length = n) (h1 : (n + 1) * by' ≤ 140737488355328) (h2 : n + 1 ≤ 9223372036854775807) :
    evApp (B0 :: B1 :: B2 :: B3 :: ⟨1, q.map fun n => .int .i64 n⟩ :: L) (.sl 4 n 0 n n) [.int .i64 x] 1 by' = some (.sl 4 (n + 1) 0 (n + 1) (n + 1), B0 :: B1 :: B2 :: B3 :: ⟨1, (q ++ [x]).map fun n => .int .i64 n⟩ :: L) := evApp_int (L := B0 :: B1 :: B2 :: B3 :: ⟨1, q.map fun n => .int .i64 n⟩ :: L) (b := 4) rfl hn h1 h2
theorem evApp_i5 {B0 B1 B2 B3 B4 : Blk} {L : List Blk} {n by' : Nat} {q : List Int} {x : Int} (hn : q.length = n) (h1 : (n + 1) * by' ≤ 140737488355328) (h2 : n + 1 ≤ 9223372036854775807) :
    evApp (B0 :: B1 :: B2 :: B3 :: B4 :: ⟨1, q.map fun n => .int .i64 n⟩ :: L) (.sl 5 n 0 n n) [.int .i64 x] 1 by' = some (.sl 5 (n + 1) 0 (n + 1) (n + 1), B0 :: B1 :: B2 :: B3 :: B4 :: ⟨1, (q ++ [x]).map fun n => .int .i64 n⟩ :: L) := evApp_int (L := B0 :: B1 :: B2 :: B3 :: B4 :: ⟨1, q.map fun n => .int .i64 n⟩ :: L) (b := 5) rfl hn h1 h2
theorem evApp_n1 {L : List Blk} {x : AV} {sz by' : Nat} (h : by' ≤ 140737488355328) : evApp L .nilS [x] sz by' = some (.sl L.length 1 0 1 1, L ++ [⟨sz, [x]⟩]) := by
  unfold evApp
  simp only [List.isEmpty_cons, Bool.false_eq_true, if_false, List.length_cons, List.length_nil]
  rw [if_pos ⟨by omega, by omega⟩]
theorem evApp_n0 {L : List Blk} {sz by' : Nat} : evApp L .nilS [] sz by' = some (.nilS, L) := rfl
theorem cells_int (k : IntKind) (n : Int) : (AV.int k n).cells = [.int k n] := rfl
theorem cells_bool (b : Bool) : (AV.bool b).cells = [.bool b] := rfl
theorem cells_str (b : ByteArray) : (AV.str b).cells = [.str b] := rfl
theorem cells_nilS : AV.nilS.cells = [.nilS] := rfl
theorem cells_nilP : AV.nilP.cells = [.nilP] := rfl
theorem cells_ifc (b : Bool) : (AV.ifc b).cells = [.ifc b] := rfl
theorem cells_any : AV.any.cells = [.any] := rfl
theorem cells_ds (t : Nat) (l : List AV) : (AV.ds t l).cells = [.ds t l] := rfl
theorem cells_sl (a b c d e : Nat) : (AV.sl a b c d e).cells = [.sl a b c d e] := rfl
theorem cells_agg (l : List AV) : (AV.agg l).cells = l := rfl
theorem cells_ptr (a b c d : Nat) : (AV.ptr a b c d).cells = [.ptr a b c d] := rfl
theorem cells_fn (f : FuncId) (c : List AV) : (AV.fn f c).cells = [.fn f c] := rfl
theorem elem_int (k : IntKind) (n : Int) : (AV.int k n).isElem = true := rfl
theorem elem_bool (b : Bool) : (AV.bool b).isElem = true := rfl
theorem elem_str (b : ByteArray) : (AV.str b).isElem = true := rfl
theorem elem_nilS : AV.nilS.isElem = true := rfl
theorem elem_nilP : AV.nilP.isElem = true := rfl
theorem elem_ifc (b : Bool) : (AV.ifc b).isElem = true := rfl
theorem elem_ds (t : Nat) (l : List AV) : (AV.ds t l).isElem = true := rfl
theorem elem_sl (a b c d e : Nat) : (AV.sl a b c d e).isElem = true := rfl
theorem elem_agg (l : List AV) : (AV.agg l).isElem = true := rfl
theorem elem_ptr (a b c d : Nat) : (AV.ptr a b c d).isElem = true := rfl
theorem elem_fn (f : FuncId) (c : List AV) : (AV.fn f c).isElem = true := rfl
theorem cellsOk_int (k : IntKind) (n : Int) : cellsOk (.int k n) = true := rfl
theorem cellsOk_ds (t : Nat) (l : List AV) : cellsOk (.ds t l) = true := rfl
theorem isCell_int (k : IntKind) (n : Int) : (AV.int k n).isCell = true := rfl
theorem isCell_bool (b : Bool) : (AV.bool b).isCell = true := rfl
theorem cellsOk_bool (b : Bool) : cellsOk (AV.bool b) = true := rfl
theorem isCell_str (s : ByteArray) : (AV.str s).isCell = true := rfl
theorem cellsOk_str (s : ByteArray) : cellsOk (AV.str s) = true := rfl
theorem isCell_nilS  : (AV.nilS ).isCell = true := rfl
theorem cellsOk_nilS  : cellsOk (AV.nilS ) = true := rfl
theorem isCell_nilP  : (AV.nilP ).isCell = true := rfl
theorem cellsOk_nilP  : cellsOk (AV.nilP ) = true := rfl
theorem isCell_ds (t : Nat) (l : List AV) : (AV.ds t l).isCell = true := rfl
theorem isCell_sl (a b c d e : Nat) : (AV.sl a b c d e).isCell = true := rfl
theorem cellsOk_sl (a b c d e : Nat) : cellsOk (AV.sl a b c d e) = true := rfl
theorem isCell_ptr (a b c d : Nat) : (AV.ptr a b c d).isCell = true := rfl
theorem cellsOk_ptr (a b c d : Nat) : cellsOk (AV.ptr a b c d) = true := rfl
theorem isCell_fn (f : FuncId) (l : List AV) : (AV.fn f l).isCell = true := rfl
theorem cellsOk_fn (f : FuncId) (l : List AV) : cellsOk (AV.fn f l) = true := rfl
theorem cellsOk_agg (l : List AV) : cellsOk (.agg l) = l.all AV.isCell := rfl
theorem all_ints_1 (l : List Int) : ((l.map fun n => AV.int .i64 n).all fun y => decide (1 = y.cells.length)) = true := by
  rw [List.all_eq_true]
  intro x hx
  obtain ⟨n, -, rfl⟩ := List.mem_map.1 hx
  rfl
theorem all_bytes_1 (l : List UInt8) : ((l.map fun n => AV.int .u8 n.toNat).all fun y => decide (1 = y.cells.length)) = true := by
  rw [List.all_eq_true]
  intro x hx
  obtain ⟨n, -, rfl⟩ := List.mem_map.1 hx
  rfl
theorem all_intss_1 (t : Nat) (l : List (List Int)) : ((l.map fun r => AV.ds t (r.map fun n => .int .i64 n)).all fun y => decide (1 = y.cells.length)) = true := by
  rw [List.all_eq_true]
  intro x hx
  obtain ⟨n, -, rfl⟩ := List.mem_map.1 hx
  rfl
theorem all_bytes_ok (l : List UInt8) : ((l.map fun n => AV.int .u8 n.toNat).all fun y => cellsOk y && decide (y.cells.length = 1)) = true := by
  rw [List.all_eq_true]
  intro x hx
  obtain ⟨n, -, rfl⟩ := List.mem_map.1 hx
  rfl
theorem all_intss_ok (t : Nat) (l : List (List Int)) : ((l.map fun r => AV.ds t (r.map fun n => .int .i64 n)).all fun y => cellsOk y && decide (y.cells.length = 1)) = true := by
  rw [List.all_eq_true]
  intro x hx
  obtain ⟨n, -, rfl⟩ := List.mem_map.1 hx
  rfl
theorem all_ints_ok (l : List Int) : ((l.map fun n => AV.int .i64 n).all fun y => cellsOk y && decide (y.cells.length = 1)) = true := by
  rw [List.all_eq_true]
  intro x hx
  obtain ⟨n, -, rfl⟩ := List.mem_map.1 hx
  rfl

def gd {ζ : Type} (c : Prop) [Decidable c] (x : ζ) : Option ζ := if c then some x else none
theorem gd_some {ζ : Type} {c : Prop} [Decidable c] {x r : ζ} (h : gd c x = some r) : c ∧ x = r := by
  unfold gd at h
  split at h
  · exact ⟨‹_›, by simpa using h⟩
  · simp at h
theorem gd_eq {ζ : Type} {c : Prop} [Decidable c] {x : ζ} (h : c) : gd c x = some x := if_pos h

theorem enc_int (t : Nat) (n : Int) : (enc t n : AV) = .int .i64 n := rfl
theorem enc_bool (t : Nat) (b : Bool) : (enc t b : AV) = .bool b := rfl
theorem enc_u8 (t : Nat) (b : UInt8) : (enc t b : AV) = .int .u8 b.toNat := rfl
theorem enc_ints (t : Nat) (l : List Int) : (enc t l : AV) = .ds t (l.map fun n => .int .i64 n) := rfl
theorem enc_bytes (t : Nat) (l : List UInt8) : (enc t l : AV) = .ds t (l.map fun n => .int .u8 n.toNat) := rfl
theorem enc_intss (t : Nat) (l : List (List Int)) : (enc t l : AV) = .ds t (l.map fun r => .ds t (r.map fun n => .int .i64 n)) := rfl
theorem enc_pair {α β : Type} [Enc α] [Enc β] (t : Nat) (p : α × β) : (enc t p : AV) = .tup [enc t p.1, enc t p.2] := rfl
theorem dec_int (n : Int) : dec (.int .i64 n) = some n := rfl
theorem dec_bool (b : Bool) : dec (.bool b) = some b := rfl
theorem dec_ints (l : List Int) : dec (.ds 0 (l.map fun n => .int .i64 n)) = some l := (ok _ _).2 rfl
theorem dec_bytes (l : List UInt8) : dec (.ds 0 (l.map fun n => .int .u8 n.toNat)) = some l := (ok _ _).2 rfl
theorem dec_intss (l : List (List Int)) : dec (.ds 0 (l.map fun r => .ds 0 (r.map fun n => .int .i64 n))) = some l := (ok _ _).2 rfl

theorem ee_int (t : Nat) (L : List Blk) (k : IntKind) (n : Int) : expE (expC t L) (.int k n) = .int k n := rfl
theorem ee_bool (t : Nat) (L : List Blk) (b : Bool) : expE (expC t L) (.bool b) = .bool b := rfl
theorem ee_str (t : Nat) (L : List Blk) (b : ByteArray) : expE (expC t L) (.str b) = .str b := rfl
theorem ee_nilS (t : Nat) (L : List Blk) : expE (expC t L) .nilS = .ds t [] := rfl
theorem ee_nil (t t' : Nat) (L : List Blk) : expE (expC t L) (.ds t' []) = .ds (min t' t) [] := rfl
theorem ee_ints (t t' : Nat) (L : List Blk) (l : List Int) : expE (expC t L) (.ds t' (l.map fun n => .int .i64 n)) = .ds (min t' t) (l.map fun n => .int .i64 n) := by
  simp [expE, expC, stepC, Function.comp_def]
theorem ee_bytes (t t' : Nat) (L : List Blk) (l : List UInt8) : expE (expC t L) (.ds t' (l.map fun n => .int .u8 n.toNat)) = .ds (min t' t) (l.map fun n => .int .u8 n.toNat) := by
  simp [expE, expC, stepC, Function.comp_def]
theorem ee_intss (t t' : Nat) (L : List Blk) (l : List (List Int)) : expE (expC t L) (.ds t' (l.map fun r => .ds t' (r.map fun n => .int .i64 n))) = .ds (min t' t) (l.map fun r => .ds (min t' t) (r.map fun n => .int .i64 n)) := by
  simp [expE, expC, stepC, Function.comp_def]
def expS (t : Nat) (L : List Blk) (ver off len : Nat) : Option Blk → AV
  | some k => if k.l.length = ver ∧ off + len ≤ ver then .ds t (((k.l.drop off).take len).map (expE (stepC t L (stepC t L (stepC t L fun _ => .any))))) else .any
  | none => .any
theorem ee_sl (t : Nat) (L : List Blk) (b ver off len cap : Nat) : expE (expC t L) (.sl b ver off len cap) = expS t L ver off len L[b]? := by
  simp only [expE, expC, stepC, expS]; cases L[b]? <;> rfl
theorem expS_ints (t : Nat) (L : List Blk) (e ver off len : Nat) (q : List Int) : expS t L ver off len (some ⟨e, q.map fun n => .int .i64 n⟩) = if q.length = ver ∧ off + len ≤ ver then .ds t (((q.drop off).take len).map fun n => .int .i64 n) else .any := by
  simp [expS, expE, stepC, Function.comp_def]
theorem expS_bytes (t : Nat) (L : List Blk) (e ver off len : Nat) (q : List UInt8) : expS t L ver off len (some ⟨e, q.map fun n => .int .u8 n.toNat⟩) = if q.length = ver ∧ off + len ≤ ver then .ds t (((q.drop off).take len).map fun n => .int .u8 n.toNat) else .any := by
  simp [expS, expE, stepC, Function.comp_def]
theorem expS_intss (t t' : Nat) (L : List Blk) (e ver off len : Nat) (q : List (List Int)) : expS t L ver off len (some ⟨e, q.map fun r => .ds t' (r.map fun n => .int .i64 n)⟩) = if q.length = ver ∧ off + len ≤ ver then .ds t (((q.drop off).take len).map fun r => .ds (min t' t) (r.map fun n => .int .i64 n)) else .any := by
  simp [expS, expE, stepC, Function.comp_def]
theorem exp_int (t : Nat) (L : List Blk) (k : IntKind) (n : Int) : exp t L (.int k n) = .int k n := rfl
theorem exp_bool (t : Nat) (L : List Blk) (b : Bool) : exp t L (.bool b) = .bool b := rfl
theorem exp_str (t : Nat) (L : List Blk) (b : ByteArray) : exp t L (.str b) = .str b := rfl
theorem exp_nilS (t : Nat) (L : List Blk) : exp t L .nilS = .ds t [] := rfl
theorem exp_ds (t t' : Nat) (L : List Blk) (l : List AV) : exp t L (.ds t' l) = expE (expC t L) (.ds t' l) := rfl
theorem exp_sl (t : Nat) (L : List Blk) (b ver off len cap : Nat) : exp t L (.sl b ver off len cap) = expE (expC t L) (.sl b ver off len cap) := rfl
theorem exp_agg (t : Nat) (L : List Blk) (l : List AV) : exp t L (.agg l) = .agg (l.map (expC t L)) := rfl
theorem exp_tup (t : Nat) (L : List Blk) (l : List AV) : exp t L (.tup l) = .tup (l.map (expE (expC t L))) := rfl
theorem ec_int (t : Nat) (L : List Blk) (k : IntKind) (n : Int) : expC t L (.int k n) = .int k n := rfl
theorem ec_bool (t : Nat) (L : List Blk) (b : Bool) : expC t L (.bool b) = .bool b := rfl
theorem ec_str (t : Nat) (L : List Blk) (b : ByteArray) : expC t L (.str b) = .str b := rfl
theorem ec_nilS (t : Nat) (L : List Blk) : expC t L .nilS = .ds t [] := rfl
theorem ec_ds (t t' : Nat) (L : List Blk) (l : List AV) : expC t L (.ds t' l) = expE (expC t L) (.ds t' l) := rfl
theorem ec_sl (t : Nat) (L : List Blk) (b ver off len cap : Nat) : expC t L (.sl b ver off len cap) = expE (expC t L) (.sl b ver off len cap) := rfl
theorem ee_aggE (t : Nat) (L : List Blk) (l : List AV) : expE (expC t L) (.agg l) = .agg (l.map (expC t L)) := rfl


theorem beq_fls (b : Bool) : (b == false) = !b := by cases b <;> rfl
theorem beq_tru (b : Bool) : (b == true) = b := by cases b <;> rfl
def gE (n : Nat) (L : List Blk) (x : AV) : AV := expE (gcC n L) x
theorem gcS_eq (n : Nat) (t : List AV) (L : List Blk) : gcS n ⟨t, L⟩ = ⟨t.map (gcV n L), (L.take n).map (gcB n L)⟩ := rfl
theorem gcV_any (n : Nat) (L : List Blk) : gcV n L .any = .any := rfl
theorem gcV_int (n : Nat) (L : List Blk) (k : IntKind) (m : Int) : gcV n L (.int k m) = .int k m := rfl
theorem gcV_bool (n : Nat) (L : List Blk) (b : Bool) : gcV n L (.bool b) = .bool b := rfl
theorem gcV_str (n : Nat) (L : List Blk) (b : ByteArray) : gcV n L (.str b) = .str b := rfl
theorem gcV_nilS (n : Nat) (L : List Blk) : gcV n L .nilS = .nilS := rfl
theorem gcV_nilP (n : Nat) (L : List Blk) : gcV n L .nilP = .nilP := rfl
theorem gcV_ifc (n : Nat) (L : List Blk) (b : Bool) : gcV n L (.ifc b) = .any := rfl
theorem gcV_sl (n : Nat) (L : List Blk) (b ver off len cap : Nat) (h : b < n) : gcV n L (.sl b ver off len cap) = .sl b ver off len cap := if_pos h
theorem gcV_ptr (n : Nat) (L : List Blk) (b ver i off : Nat) (h : b < n) : gcV n L (.ptr b ver i off) = .ptr b ver i off := if_pos h
theorem gcV_fn (n : Nat) (L : List Blk) (g : FuncId) (l : List AV) : gcV n L (.fn g l) = .fn g (l.map (gcStep n L (gcStep n L (gcStep n L fun _ => .any)))) := rfl
theorem gcV_agg (n : Nat) (L : List Blk) (l : List AV) : gcV n L (.agg l) = .agg (l.map (gcC n L)) := rfl
theorem gcV_nil (n : Nat) (L : List Blk) (t : Nat) : gcV n L (.ds t []) = .ds t [] := rfl
theorem gcV_ints (n : Nat) (L : List Blk) (t : Nat) (l : List Int) : gcV n L (.ds t (l.map fun n => .int .i64 n)) = .ds t (l.map fun n => .int .i64 n) := by
  simp [gcV, expE, gcC, gcStep, Function.comp_def]
theorem gcV_bytes (n : Nat) (L : List Blk) (t : Nat) (l : List UInt8) : gcV n L (.ds t (l.map fun n => .int .u8 n.toNat)) = .ds t (l.map fun n => .int .u8 n.toNat) := by
  simp [gcV, expE, gcC, gcStep, Function.comp_def]
theorem gcV_intss (n : Nat) (L : List Blk) (t u : Nat) (l : List (List Int)) : gcV n L (.ds t (l.map fun r => .ds u (r.map fun n => .int .i64 n))) = .ds t (l.map fun r => .ds u (r.map fun n => .int .i64 n)) := by
  simp [gcV, expE, gcC, gcStep, Function.comp_def]
theorem gcC_any (n : Nat) (L : List Blk) : gcC n L .any = .any := rfl
theorem gcC_int (n : Nat) (L : List Blk) (k : IntKind) (m : Int) : gcC n L (.int k m) = .int k m := rfl
theorem gcC_bool (n : Nat) (L : List Blk) (b : Bool) : gcC n L (.bool b) = .bool b := rfl
theorem gcC_str (n : Nat) (L : List Blk) (b : ByteArray) : gcC n L (.str b) = .str b := rfl
theorem gcC_nilS (n : Nat) (L : List Blk) : gcC n L .nilS = .nilS := rfl
theorem gcC_nilP (n : Nat) (L : List Blk) : gcC n L .nilP = .nilP := rfl
theorem gcC_sl (n : Nat) (L : List Blk) (b ver off len cap : Nat) (h : b < n) : gcC n L (.sl b ver off len cap) = .sl b ver off len cap := if_pos h
theorem gcC_ptr (n : Nat) (L : List Blk) (b ver i off : Nat) (h : b < n) : gcC n L (.ptr b ver i off) = .ptr b ver i off := if_pos h
theorem gcC_nil (n : Nat) (L : List Blk) (t : Nat) : gcC n L (.ds t []) = .ds t [] := rfl
theorem gcC_ints (n : Nat) (L : List Blk) (t : Nat) (l : List Int) : gcC n L (.ds t (l.map fun n => .int .i64 n)) = .ds t (l.map fun n => .int .i64 n) := gcV_ints n L t l
theorem gcC_bytes (n : Nat) (L : List Blk) (t : Nat) (l : List UInt8) : gcC n L (.ds t (l.map fun n => .int .u8 n.toNat)) = .ds t (l.map fun n => .int .u8 n.toNat) := gcV_bytes n L t l
theorem gcC_intss (n : Nat) (L : List Blk) (t u : Nat) (l : List (List Int)) : gcC n L (.ds t (l.map fun r => .ds u (r.map fun n => .int .i64 n))) = .ds t (l.map fun r => .ds u (r.map fun n => .int .i64 n)) := gcV_intss n L t u l
theorem gcB_ints (n : Nat) (L : List Blk) (e : Nat) (l : List Int) : gcB n L ⟨e, l.map fun n => .int .i64 n⟩ = ⟨e, l.map fun n => .int .i64 n⟩ := by
  simp [gcB, expE, gcC, gcStep, Function.comp_def]
theorem gcB_nil (n : Nat) (L : List Blk) (e : Nat) : gcB n L ⟨e, []⟩ = ⟨e, []⟩ := rfl
theorem gcB_one (n : Nat) (L : List Blk) (e : Nat) (x : AV) : gcB n L ⟨e, [x]⟩ = ⟨e, [gE n L x]⟩ := rfl
theorem gE_any (n : Nat) (L : List Blk) : gE n L .any = .any := rfl
theorem gE_int (n : Nat) (L : List Blk) (k : IntKind) (m : Int) : gE n L (.int k m) = .int k m := rfl
theorem gE_bool (n : Nat) (L : List Blk) (b : Bool) : gE n L (.bool b) = .bool b := rfl
theorem gE_str (n : Nat) (L : List Blk) (b : ByteArray) : gE n L (.str b) = .str b := rfl
theorem gE_nilS (n : Nat) (L : List Blk) : gE n L .nilS = .nilS := rfl
theorem gE_nilP (n : Nat) (L : List Blk) : gE n L .nilP = .nilP := rfl
theorem gE_sl (n : Nat) (L : List Blk) (b ver off len cap : Nat) : gE n L (.sl b ver off len cap) = gcV n L (.sl b ver off len cap) := rfl
theorem gE_ptr (n : Nat) (L : List Blk) (b ver i off : Nat) : gE n L (.ptr b ver i off) = gcV n L (.ptr b ver i off) := rfl
theorem gE_fn (n : Nat) (L : List Blk) (g : FuncId) (l : List AV) : gE n L (.fn g l) = gcV n L (.fn g l) := rfl
theorem gE_agg (n : Nat) (L : List Blk) (l : List AV) : gE n L (.agg l) = .agg (l.map (gcC n L)) := rfl
theorem gE_ds (n : Nat) (L : List Blk) (t : Nat) (l : List AV) : gE n L (.ds t l) = gcV n L (.ds t l) := rfl

theorem ISpec.mono {P : Program} {f : FuncId} {args : List AV} {L : List Blk} {K K' : AV → List Blk → Prop} (h : ISpec P f args L K) (hk : ∀ r L', K r L' → K' r L') : ISpec P f args L K' :=
  fun V w vs h1 h2 h3 => (h V w vs h1 h2 h3).mono fun _ _ ⟨v, r, L', V', a, b, c⟩ => ⟨v, r, L', V', a, hk r L' b, c⟩

theorem InlK_intro {P : Program} {t : List AV} {L : List Blk} {o : Oper} {K : AV → List Blk → Prop} {x : Operand} {args : Array Operand} {ts : Array TypeId} {f : FuncId} {caps : List AV}
    (hop : o.op = .call { callee := .value x, args, argTypes := ts }) (hx : St.ρ ⟨t, L⟩ x = .fn f caps) (hc : CanCall P f) (hs : ISpec P f (args.toList.map (St.ρ ⟨t, L⟩) ++ caps) L K) : InlK P ⟨t, L⟩ o K :=
  ⟨x, args, ts, f, caps, hop, hx, hc, hs⟩

end Go.Ev
namespace Go.Ev
open Go Go.RowKit Go.Ev.Enc
variable [Gl] [Lit]

theorem lit_off (parts : Array (Nat × Operand)) : @litB litOff parts = false := rfl
attribute [go_sem] lit_off fillS evApp_n0 List.append_eq List.drop_succ_cons List.drop_nil isCell_int isCell_bool cellsOk_bool isCell_str cellsOk_str isCell_nilS cellsOk_nilS isCell_nilP cellsOk_nilP isCell_ds isCell_sl cellsOk_sl isCell_ptr cellsOk_ptr isCell_fn cellsOk_fn cellsOk_agg
 InvG_eq mixL_nil mixL_k mixL_s mixL_v List.length_replicate List.length_set List.length_take List.length_drop beq_fls beq_tru decide_eq_true_eq gcS_eq gcV_any gcV_int gcV_bool gcV_str gcV_nilS gcV_nilP gcV_ifc gcV_sl gcV_ptr gcV_fn gcV_agg gcV_nil gcV_ints gcV_bytes gcV_intss gcC_any gcC_int gcC_bool gcC_str gcC_nilS gcC_nilP gcC_sl gcC_ptr gcC_nil gcC_ints gcC_bytes gcC_intss
 gcB_ints gcB_nil gcB_one gE_any gE_int gE_bool gE_str gE_nilS gE_nilP gE_sl gE_ptr gE_fn gE_agg gE_ds List.take_succ_cons List.take_zero AV.bool.injEq AV.int.injEq
 vc_skip vc_label vc_ret vc_exit vc_seq vc_cond vc_block vc_draw vc_inl vc_loop thenA_n thenA_r thenA_e blockA_n blockA_r blockA_i blockA_o stepK_t stepK_f runQ_nil runQ_cons inlK_t inlK_f notK_t notK_f
  runK someQ_some wantQ_t wantQ_f wantQ_not condQ_not InlQ_step     InlQ_nil wantedA Bool.true_beq Bool.false_beq   Bool.not_true Bool.not_false beq_self_eq_true gt_iff_lt ge_iff_le contK opQ_some
  evD evP evE AV.put St.ρ ofV ofV1 List.set_cons_zero List.set_cons_succ List.length_cons List.length_nil List.replicate List.cons_append List.nil_append List.getD_cons_zero
  List.getD_cons_succ List.getElem?_toArray List.getElem?_cons_zero List.getElem?_cons_succ evLen evBin evNil evInt evUn evIdxA evFA evField evRd bnd mxB hiB loB evSlice okP condQ_true
  condQ_false  List.length_map Bool.false_eq_true if_false if_true ite_true ite_false Option.map_some Option.map_none Option.bind_some Option.isSome_some Option.isSome_none
  Int.toNat_natCast Int.natCast_nonneg true_and and_true decide_true decide_false Option.some.injEq cells_int cells_bool cells_str cells_nilS cells_nilP cells_ifc cells_any cells_ds cells_sl
  cells_agg cells_ptr cells_fn eq_self Nat.zero_add Nat.add_zero Nat.lt_add_one exists_eq_left' Option.bind_none List.length_append F0 F1 F2 F3 F4 F5 dec_int dec_bool dec_ints
  dec_bytes dec_intss enc_int enc_bool enc_u8 enc_ints enc_bytes enc_intss enc_pair ee_int ee_bool ee_str ee_nilS ee_nil ee_ints ee_bytes ee_intss ee_sl expS_ints expS_bytes
  expS_intss exp_int exp_bool exp_str exp_nilS exp_ds exp_sl exp_agg exp_tup ec_int ec_bool ec_str ec_nilS ec_ds ec_sl ee_aggE Nat.min_zero Nat.zero_min Nat.min_self List.map_cons
  List.map_nil DoneQ resA List.drop_zero List.take_length bne set_ints rep_ints app_ints app_int1 take_map_f drop_map_f splice Bool.true_and Bool.and_true Bool.false_and
  Bool.and_false Bool.true_or Bool.or_true Bool.false_or Bool.or_false cellsOk_int cellsOk_ds all_ints_ok List.all_cons List.all_nil elems and_self List.append_nil Nat.zero_mul
  Nat.one_mul Nat.mul_one List.size_toArray Array.size_empty Nat.zero_le fillE List.toList_toArray elem_int elem_bool elem_str elem_nilS elem_nilP elem_ifc elem_ds elem_sl elem_agg elem_ptr
  elem_fn Nat.le_refl all_ints_1 all_bytes_1 all_intss_1 all_bytes_ok all_intss_ok get_app_add get_app_len set_app_add set_app_len List.append_assoc List.getElem?_nil

def cnE := And.intro @evApp_n1 (And.intro @evApp_i0 (And.intro @evApp_i1 (And.intro @evApp_i2 (And.intro @evApp_i3 (And.intro @evApp_i4 (And.intro @evApp_i5 (And.intro @evApp_s0 (And.intro @evApp_s1 (And.intro @evApp_s2 (And.intro @evApp_s3 (And.intro @decide_eq_true (And.intro @decide_eq_false (And.intro @beq_t (And.intro @beq_f (And.intro @wrap_succ (And.intro @wrap_in (And.intro @getD_ints @getD_intss)))))))))))))))))
abbrev kI := @RegQ.intro
abbrev kB1 := @condQ_beq
abbrev kB2 := @wantQ_beq
abbrev kD1 := @condQ_dec
abbrev kD2 := @wantQ_dec
abbrev kS1 := @condQ_split
abbrev kS2 := @wantQ_split

end Go.Ev
