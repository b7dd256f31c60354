/- The abstract values of the evaluation, its operations, and that each agrees with the model. -/
import Derived.WalkKit
import Derived.Laws.StructEq
set_option linter.all false
namespace Go.Ev
open Go Go.RowKit

inductive AV where
  | any
  | int (k : IntKind) (n : Int)
  | bool (b : Bool)
  | str (s : ByteArray)
  | nilS
  | ds (tag : Nat) (l : List AV)
  | sl (b ver off len cap : Nat)
  | agg (l : List AV)
  | tup (l : List AV)
  | ptr (b ver i off : Nat)
  | dptr (cells : List AV) (off : Nat)
  | nilP
  | ifc (b : Bool)
  | fn (f : FuncId) (caps : List AV)
  deriving Inhabited

def AV.cells : AV → List AV
  | .agg l => l
  | v => [v]

def AV.isCell : AV → Bool
  | .any | .agg _ | .tup _ => false
  | _ => true
def AV.isElem : AV → Bool
  | .any | .tup _ => false
  | _ => true

structure Blk where
  esz : Nat
  l : List AV

structure St where
  t : List AV
  L : List Blk

def ofV1 : Value → AV
  | .int k n => .int k n
  | .bool b => .bool b
  | .string s => .str s
  | .slice none 0 0 => .nilS
  | .pointer none => .nilP
  | .nilIface => .ifc false
  | _ => .any
def ofV : Value → AV
  | .agg cs => .agg (cs.toList.map ofV1)
  | v => ofV1 v

class Lit where
  b : Bool
instance litOff : Lit := ⟨false⟩
class Gl where
  g : Nat → AV
  ok : (Nat → Prop) → World → Prop
  mono : ∀ (I I' : Nat → Prop) (w w' : World), ok I w → (∀ x, I x → I' x) → (∀ x, I x → w'.heap[x]? = w.heap[x]?) → ok I' w'
variable [Gl]
def St.ρ (s : St) : Operand → AV
  | .tmp t => s.t.getD t .any
  | .const v => ofV v
  | .global g => Gl.g g
  | .func f => .fn f []

def AV.put (t : List AV) (dst : Option Tmp) (v : AV) : List AV :=
  match dst with
  | some d => t.set d v
  | none => t

def elems (L : List Blk) : AV → Option (List AV)
  | .nilS => some []
  | .ds _ l => some l
  | .sl b ver off len _ => match L[b]? with
    | some k => if k.l.length = ver then some ((k.l.drop off).take len) else none
    | none => none
  | _ => none

def expE (f : AV → AV) : AV → AV
  | .agg l => .agg (l.map f)
  | x => f x
def stepC (t : Nat) (L : List Blk) (f : AV → AV) : AV → AV
  | .sl b ver off len _ => match L[b]? with
    | some k => if k.l.length = ver ∧ off + len ≤ ver then .ds t (((k.l.drop off).take len).map (expE f)) else .any
    | none => .any
  | .ds tag l => .ds (min tag t) (l.map (expE f))
  | .nilS => .ds t []
  | .int k n => .int k n
  | .bool b => .bool b
  | .str s => .str s
  | .nilP => .nilP
  | _ => .any
def expC (t : Nat) (L : List Blk) : AV → AV := stepC t L (stepC t L (stepC t L (stepC t L fun _ => .any)))
def exp (t : Nat) (L : List Blk) : AV → AV
  | .tup l => .tup (l.map (expE (expC t L)))
  | x => expE (expC t L) x

structure E where
  ver : Nat
  blk : Nat
  base : Nat
  rsz : Nat
  esz : Nat

inductive R (I J : Nat → Prop) (rf : Nat → Option E) (w : World) : AV → Value → Prop
  | any (v) : R I J rf w .any v
  | int (k n) : R I J rf w (.int k n) (.int k n)
  | bool (b) : R I J rf w (.bool b) (.bool b)
  | str (s) : R I J rf w (.str s) (.string s)
  | nilS (a) : R I J rf w .nilS (.slice a 0 0)
  | ds0 (tag a cap) : (tag = 2 → cap = 0) → R I J rf w (.ds tag []) (.slice a 0 cap)
  | ds (tag l blk o cap esz) (vs : Nat → Value) : (0 < tag → J blk) → (I blk ∨ J blk) → l ≠ [] → (∀ i, i < l.length → (l.getD i .any).cells.length = esz) →
      (∀ i, i < l.length * esz → w.cell? ⟨blk, o + i, none⟩ = some (vs i)) →
      (∀ i j, i < l.length → j < esz → R I J rf w ((l.getD i .any).cells.getD j .any) (vs (i * esz + j))) → l.length ≤ cap → (tag = 2 → cap = l.length) →
      R I J rf w (.ds tag l) (.slice (some ⟨blk, o, none⟩) l.length cap)
  | sl (b ver off len cap v e) : v.oneCell' = true → rf b = some e → ver ≤ e.ver →
      (e.ver = ver → ∃ a cap', v = .slice a len cap' ∧ len ≤ cap ∧ cap ≤ cap' ∧ (0 < cap' → a = some ⟨e.blk, e.base + off * e.esz, none⟩) ∧ e.base + (off + cap') * e.esz ≤ e.rsz ∧ off + cap ≤ ver) →
      R I J rf w (.sl b ver off len cap) v
  | agg (l arr) : arr.size = l.length → (∀ i, i < l.length → R I J rf w (l.getD i .any) (arr.getD i undef)) → R I J rf w (.agg l) (.agg arr)
  | tup (l arr) : arr.size = l.length → (∀ i, i < l.length → R I J rf w (l.getD i .any) (arr.getD i undef)) → R I J rf w (.tup l) (.tuple arr)
  | ptr (b ver i off v e) : v.oneCell' = true → rf b = some e → ver ≤ e.ver →
      (e.ver = ver → v = .pointer (some ⟨e.blk, e.base + i * e.esz + off, none⟩) ∧ i < ver) → R I J rf w (.ptr b ver i off) v
  | dptr (l off blk o) (vs : Nat → Value) : (I blk ∨ J blk) → (∀ j, j < l.length → w.cell? ⟨blk, o + j, none⟩ = some (vs j)) →
      (∀ j, j < l.length → R I J rf w (l.getD j .any) (vs j)) → R I J rf w (.dptr l off) (.pointer (some ⟨blk, o + off, none⟩))
  | nilP : R I J rf w .nilP (.pointer none)
  | ifcN : R I J rf w (.ifc false) .nilIface
  | ifcS (t p) : R I J rf w (.ifc true) (.iface t p)
  | fn (f l arr) : arr.size = l.length → (∀ i, i < l.length → R I J rf w (l.getD i .any) (arr.getD i undef)) → R I J rf w (.fn f l) (.func (.func f) #[] arr)

def rfExt (rf rf' : Nat → Option E) : Prop := ∀ b e, rf b = some e → ∃ e', rf' b = some e' ∧ e.ver ≤ e'.ver ∧ (e'.ver = e.ver → e' = e)

theorem R.mono {I J I' J' : Nat → Prop} {rf rf' : Nat → Option E} {w w' : World} (hI : ∀ x, I x → I' x) (hJ : ∀ x, J x → J' x)
    (hw : ∀ x, I x ∨ J x → w'.heap[x]? = w.heap[x]?) (hr : rfExt rf rf') {x : AV} {v : Value} (h : R I J rf w x v) : R I' J' rf' w' x v := by
  induction h with
  | any v => exact .any v
  | int k n => exact .int k n
  | bool b => exact .bool b
  | str s => exact .str s
  | nilS a => exact .nilS a
  | ds0 tag a cap h => exact .ds0 tag a cap h
  | ds tag l blk o cap esz vs h1 h2 h3 h4 h5 _ h7 h8 ih =>
    refine .ds tag l blk o cap esz vs (fun h => hJ _ (h1 h)) (h2.imp (hI _) (hJ _)) h3 h4 (fun i hi => ?_) ih h7 h8
    rw [← h5 i hi]; exact World.cell?_of_block (hw _ h2)
  | sl b ver off len cap v e h0 h1 h2 h3 =>
    obtain ⟨e', h4, h5, h6⟩ := hr b e h1
    refine .sl b ver off len cap v e' h0 h4 (Nat.le_trans h2 h5) (fun h => ?_)
    have : e.ver = ver := by omega
    rw [h6 (by omega)]; exact h3 this
  | agg l arr h1 _ ih => exact .agg l arr h1 ih
  | tup l arr h1 _ ih => exact .tup l arr h1 ih
  | ptr b ver i off v e h0 h1 h2 h3 =>
    obtain ⟨e', h4, h5, h6⟩ := hr b e h1
    refine .ptr b ver i off v e' h0 h4 (Nat.le_trans h2 h5) (fun h => ?_)
    have : e.ver = ver := by omega
    rw [h6 (by omega)]; exact h3 this
  | dptr l off blk o vs h1 h2 _ ih =>
    refine .dptr l off blk o vs (h1.imp (hI _) (hJ _)) (fun j hj => ?_) ih
    rw [← h2 j hj]; exact World.cell?_of_block (hw _ h1)
  | nilP => exact .nilP
  | ifcN => exact .ifcN
  | ifcS t p => exact .ifcS t p
  | fn f l arr h1 _ ih => exact .fn f l arr h1 ih

theorem rfExt.refl (rf : Nat → Option E) : rfExt rf rf := fun _ e h => ⟨e, h, Nat.le_refl _, fun _ => rfl⟩

def rfOf (m : List (Nat × Nat × Nat)) (L : List Blk) (b : Nat) : Option E :=
  match L[b]?, m[b]? with
  | some k, some x => some ⟨k.l.length, x.1, x.2.1, x.2.2, k.esz⟩
  | _, _ => none

structure Vw where
  B : Nat
  I : Nat → Prop
  J : Nat → Prop
  m : List (Nat × Nat × Nat)

structure GOKw (I : Nat → Prop) (w : World) : Prop where
  val : ∀ g, R I (fun _ => False) (fun _ => none) w (Gl.g g) (.pointer (some ⟨g, 0, none⟩))
  ok : Gl.ok I w
theorem GOKw.mono {I I' : Nat → Prop} {w w' : World} (h : GOKw I w) (hI : ∀ x, I x → I' x) (hw : ∀ x, I x → w'.heap[x]? = w.heap[x]?) : GOKw I' w' :=
  ⟨fun g => (h.val g).mono hI (fun _ h => h) (fun x h => h.elim (hw x) fun h => h.elim) (fun _ _ h => by simp at h), Gl.mono _ _ _ _ h.ok hI hw⟩
structure Rel (V : Vw) (L : List Blk) (w : World) : Prop where
  len : V.m.length = L.length
  blk : ∀ (b : Nat) (k : Blk) (x : Nat × Nat × Nat), L[b]? = some k → V.m[b]? = some x → ∃ (c : Array Value) (ty : TypeId), w.heap[x.1]? = some (.cells c ty (0, 0)) ∧ c.size = x.2.2 ∧ x.2.1 + k.l.length * k.esz ≤ x.2.2 ∧
    (∀ i, i < k.l.length → (k.l.getD i .any).cells.length = k.esz) ∧
    (∀ i j, i < k.l.length → j < k.esz → R V.I V.J (rfOf V.m L) w ((k.l.getD i .any).cells.getD j .any) (c.getD (x.2.1 + i * k.esz + j) undef))
  fresh : ∀ (b : Nat) (x : Nat × Nat × Nat), V.m[b]? = some x → V.B ≤ x.1 ∧ ¬ V.I x.1 ∧ ¬ V.J x.1
  inj : ∀ (b b' : Nat) (x x' : Nat × Nat × Nat), V.m[b]? = some x → V.m[b']? = some x' → x.1 = x'.1 → b = b'
  Ilt : ∀ x, V.I x → x < w.heap.size
  Jlt : ∀ x, V.J x → V.B ≤ x ∧ x < w.heap.size
  Bsz : V.B ≤ w.heap.size
  big : ∀ (b : Nat) (k : Blk) (x : Nat × Nat × Nat), L[b]? = some k → V.m[b]? = some x → k.esz = 1 → x.2.2 ≤ 9223372036854775807
  glob : GOKw V.I w

structure Step (V : Vw) (w : World) (V' : Vw) (w' : World) : Prop where
  B : V'.B = V.B
  I : V'.I = V.I
  J : ∀ x, V.J x → V'.J x
  keep : ∀ x, x < w.heap.size → (∀ (b : Nat) (e : Nat × Nat × Nat), V.m[b]? = some e → e.1 ≠ x) → w'.heap[x]? = w.heap[x]? ∧ (∀ (b : Nat) (e : Nat × Nat × Nat), V'.m[b]? = some e → e.1 ≠ x) ∧ (V'.J x → V.J x)
  size : w.heap.size ≤ w'.heap.size
  os : w'.os = w.os
  tape : w'.tape = w.tape
  output : w'.output = w.output

theorem Step.refl (V : Vw) (w : World) : Step V w V w := ⟨rfl, rfl, fun _ h => h, fun _ _ h => ⟨rfl, h, fun h => h⟩, Nat.le_refl _, rfl, rfl, rfl⟩
theorem Step.trans {V V' V'' : Vw} {w w' w'' : World} (h : Step V w V' w') (k : Step V' w' V'' w'') : Step V w V'' w'' :=
  ⟨k.B.trans h.B, k.I.trans h.I, fun x hx => k.J x (h.J x hx),
   fun x hx hm => by
    obtain ⟨h1, h2, h3⟩ := h.keep x hx hm
    obtain ⟨k1, k2, k3⟩ := k.keep x (Nat.lt_of_lt_of_le hx h.size) h2
    exact ⟨k1.trans h1, k2, fun hj => h3 (k3 hj)⟩,
   Nat.le_trans h.size k.size, k.os.trans h.os, k.tape.trans h.tape, k.output.trans h.output⟩
theorem Step.keepIJ {V V' : Vw} {L : List Blk} {w w' : World} (hr : Rel V L w) (h : Step V w V' w') (x : Nat) (hx : V.I x ∨ V.J x) : w'.heap[x]? = w.heap[x]? :=
  (h.keep x (hx.elim (hr.Ilt x) fun hj => (hr.Jlt x hj).2) fun b e he hxe => by
    subst hxe
    have := hr.fresh b e he
    exact hx.elim this.2.1 this.2.2).1

theorem Rel.globS {V V' : Vw} {L : List Blk} {w w' : World} (hr : Rel V L w) (h : Step V w V' w') : GOKw V'.I w' :=
  hr.glob.mono (fun x hx => by rw [h.I]; exact hx) fun x hx => h.keepIJ hr x (.inl hx)
theorem Rel.globR {V : Vw} {L : List Blk} {w : World} (hr : Rel V L w) (g : Nat) {J' : Nat → Prop} {rf : Nat → Option E} : R V.I J' rf w (Gl.g g) (.pointer (some ⟨g, 0, none⟩)) :=
  (hr.glob.val g).mono (fun _ h => h) (fun _ h => h.elim) (fun _ _ => rfl) (fun _ _ h => by simp at h)
structure RelS (V : Vw) (s : St) (a : Act) (w : World) : Prop where
  rel : Rel V s.L w
  defers : a.defers = []
  size : a.tmps.size = s.t.length
  tmps : ∀ i, i < s.t.length → R V.I V.J (rfOf V.m s.L) w (s.t.getD i .any) (a.tmps.getD i undef)

theorem R.step {V V' : Vw} {L L' : List Blk} {w w' : World} (hr : Rel V L w) (h : Step V w V' w') (hf : rfExt (rfOf V.m L) (rfOf V'.m L')) {x : AV} {v : Value}
    (hx : R V.I V.J (rfOf V.m L) w x v) : R V'.I V'.J (rfOf V'.m L') w' x v :=
  hx.mono (fun x hx => by rw [h.I]; exact hx) h.J (fun x hx => h.keepIJ hr x hx) hf

end Go.Ev
namespace Go.Ev
open Go Go.RowKit
variable [Gl]

def tsize (P : Program) (t : TypeId) : Option Nat := (P.info? t).map (·.size)
def tbytes (P : Program) (t : TypeId) : Option Nat := (P.info? t).map (·.bytes)
def tzero (P : Program) (t : TypeId) : Option AV := ((P.info? t).bind (·.zero)).map ofV
def isAggD : TypeDesc → Bool
  | .struct _ | .array _ _ => true
  | _ => false
def tagg (P : Program) (t : TypeId) : Option Bool := (P.underlying t).map isAggD

def evRd (agg : Bool) (n off : Nat) (cs : List AV) : Option AV :=
  if agg then (if off + n ≤ cs.length then some (.agg ((cs.drop off).take n)) else none)
  else (if off < cs.length then some (cs.getD off .any) else none)

def evInt (op : BinOp) (k : IntKind) (a b : Int) : Option AV :=
  match op with
  | .add => some (.int k (k.wrap (a + b)))
  | .sub => some (.int k (k.wrap (a - b)))
  | .mul => some (.int k (k.wrap (a * b)))
  | .quo => if b = 0 then none else some (.int k (k.wrap (a.tdiv b)))
  | .rem => if b = 0 then none else some (.int k (a.tmod b))
  | .eql => some (.bool (a == b))
  | .neq => some (.bool (a != b))
  | .lss => some (.bool (decide (a < b)))
  | .leq => some (.bool (decide (a ≤ b)))
  | .gtr => some (.bool (decide (a > b)))
  | .geq => some (.bool (decide (a ≥ b)))
  | .and => some (.int k (k.wrap (BitVec.ofInt k.bits a &&& BitVec.ofInt k.bits b).toNat))
  | .or => some (.int k (k.wrap (BitVec.ofInt k.bits a ||| BitVec.ofInt k.bits b).toNat))
  | .xor => some (.int k (k.wrap (BitVec.ofInt k.bits a ^^^ BitVec.ofInt k.bits b).toNat))
  | _ => none

def eq3F (P : Program) (f : Field) (i : Nat) : Bool := decide (f.name ≠ "_") && (f.offset == i && (match P.underlying f.type with
  | some (.int _) => true
  | _ => false))
def eq3 (P : Program) (t : TypeId) : Bool := !(P.eqGuardType P.depth t) && (!(P.stoodInHeld t) && (match P.underlying t with
  | some (.struct fs) => (match fs.toList with
    | [f, g, h] => eq3F P f 0 && (eq3F P g 1 && eq3F P h 2)
    | _ => false)
  | _ => false))
def evAgg (P : Program) (op : BinOp) (t : TypeId) (xs ys : List AV) : Option AV :=
  match op, xs, ys with
  | .eql, [.int k1 a1, .int k2 a2, .int k3 a3], [.int l1 b1, .int l2 b2, .int l3 b3] =>
    if (k1 = l1 ∧ k2 = l2 ∧ k3 = l3) ∧ eq3 P t = true then some (.bool ((a1 == b1) && ((a2 == b2) && (a3 == b3)))) else none
  | _, _, _ => none
def evNil (P : Program) (op : BinOp) (t : TypeId) (b : Bool) : Option AV :=
  match P.underlying t, op with
  | some (.interface _), .eql => some (.bool (!b))
  | some (.interface _), .neq => some (.bool b)
  | _, _ => none
def evBin (P : Program) (op : BinOp) (t : TypeId) (yo : Operand) (x y : AV) : Option AV :=
  match x, y with
  | .ifc b, _ => match yo with
    | .const .nilIface => evNil P op t b
    | _ => none
  | .agg xs, .agg ys => evAgg P op t xs ys
  | .int k a, .int k' b => if k = k' then evInt op k a b else none
  | .bool a, .bool b => match P.underlying t with
    | some .bool => (match op with
      | .eql => some (.bool (a == b))
      | .neq => some (.bool (a != b))
      | _ => none)
    | _ => none
  | .str a, .str b => match op with
    | .eql => some (.bool (a.toList == b.toList))
    | .neq => some (.bool (!(a.toList == b.toList)))
    | .add => if a.size + b.size ≤ 9223372036854775807 then some (.str (a ++ b)) else none
    | _ => none
  | _, _ => none

def evUn (op : UnOp) (x : AV) : Option AV :=
  match op, x with
  | .not, .bool b => some (.bool !b)
  | .neg, .int k n => some (.int k (k.wrap (0 - n)))
  | _, _ => none

def bnd (x : AV) (y : Nat) : Option Nat :=
  match x with
  | .int _ i => if 0 ≤ i ∧ i ≤ y then some i.toNat else none
  | _ => none

def mxB (mx : Option AV) (cap : Nat) : Option Nat := match mx with | some v => bnd v cap | none => some cap
def hiB (hi mx : Option AV) (m len : Nat) : Option Nat := match hi with | some v => bnd v m | none => if mx.isSome then none else some len
def loB (lo : Option AV) (h : Nat) : Option Nat := match lo with | some v => bnd v h | none => some 0

def evSlice (x : AV) (lo hi mx : Option AV) (L : List Blk) : Option AV :=
  match x with
  | .sl b ver off len cap =>
    match L[b]? with
    | some k => if k.l.length = ver then
        (mxB mx cap).bind fun m => (hiB hi mx m len).bind fun h => (loB lo h).bind fun l => some (.sl b ver (off + l) (h - l) (m - l))
      else none
    | none => none
  | .ds own l => if mx.isSome then none else
      (hiB hi none l.length l.length).bind fun h => (loB lo h).bind fun lo' => some (.ds (min own 1) ((l.take h).drop lo'))
  | .str s => if mx.isSome then none else
      (hiB hi none s.size s.size).bind fun h => (loB lo h).bind fun lo' => some (.str (s.extract lo' h))
  | _ => none

def okP (L : List Blk) (b ver : Nat) : Bool :=
  match L[b]? with
  | some k => decide (k.l.length = ver)
  | none => false

def evIdxA (P : Program) (t : TypeId) (x : AV) (n : Int) (L : List Blk) : Option AV :=
  match P.underlying t with
  | some (.slice e) => match x with
    | .sl b ver off len _ => match L[b]? with
      | some k => if k.l.length = ver ∧ tsize P e = some k.esz ∧ 0 ≤ n ∧ n < len then some (.ptr b ver (off + n.toNat) 0) else none
      | none => none
    | .ds _ l => if 0 ≤ n ∧ n < l.length ∧ tsize P e = some (l.getD n.toNat .any).cells.length then some (.dptr (l.getD n.toNat .any).cells 0) else none
    | _ => none
  | some (.array len e) => match tsize P e with
    | some sz => if 0 ≤ n ∧ n < len then (match x with
      | .ptr b ver i off => if okP L b ver then some (.ptr b ver i (off + n.toNat * sz)) else none
      | .dptr cs off => some (.dptr cs (off + n.toNat * sz))
      | _ => none) else none
    | none => none
  | _ => none

def evFA (P : Program) (s : TypeId) (x : AV) (f : Nat) (L : List Blk) : Option AV :=
  match P.underlying s with
  | some (.struct fields) => match fields[f]? with
    | some fd => match tsize P fd.type with
      | some (_ + 1) => (match x with
        | .ptr b ver i off => if okP L b ver then some (.ptr b ver i (off + fd.offset)) else none
        | .dptr cs off => some (.dptr cs (off + fd.offset))
        | _ => none)
      | _ => none
    | none => none
  | _ => none

def evField (P : Program) (t : TypeId) (x : AV) (f : Nat) : Option AV :=
  match P.underlying t, x with
  | some (.struct fields), .agg cs => match fields[f]? with
    | some fd => match tagg P fd.type, tsize P fd.type with
      | some a, some n => evRd a n fd.offset cs
      | _, _ => none
    | none => none
  | _, _ => none

def evLen (L : List Blk) : AV → Option AV
  | .sl b ver _ len _ => if okP L b ver then some (.int .i64 len) else none
  | .ds _ l => some (.int .i64 l.length)
  | .nilS => some (.int .i64 0)
  | .str s => some (.int .i64 s.size)
  | _ => none

def evTwo (g : Int → Int → Int) : List AV → Option AV
  | [.int k a, .int _ b] => some (.int k (g a b))
  | _ => none

def evP (P : Program) (ρ : Operand → AV) (L : List Blk) : Op → Option AV
  | .move x | .assign x => some (ρ x)
  | .pick c a b => match ρ c with
    | .bool t => some (if t then ρ a else ρ b)
    | _ => none
  | .load t a => match tagg P t, tsize P t with
    | some g, some n => (match ρ a with
      | .ptr b ver i off => (match L[b]? with
        | some k => if k.l.length = ver ∧ i < ver then evRd g n off (k.l.getD i .any).cells else none
        | none => none)
      | .dptr cs off => evRd g n off cs
      | _ => none)
    | _, _ => none
  | .nilCheck x => match ρ x with
    | .ptr b ver i off => if okP L b ver then some (.ptr b ver i off) else none
    | .dptr cs off => some (.dptr cs off)
    | .fn f c => some (.fn f c)
    | _ => none
  | .binOp op t x y _ => evBin P op t y (ρ x) (ρ y)
  | .unOp op _ x => evUn op (ρ x)
  | .convert s d x => match P.underlying s, P.underlying d, ρ x with
    | some (.int _), some (.int k), .int _ n => some (.int k (k.wrap n))
    | _, _, _ => none
  | .makeFunc (.func f) fi ca => if fi.size = 0 then some (.fn f (ca.toList.map ρ)) else none
  | .slice t x lo hi mx => match P.underlying t, ρ x with
    | some (.slice e), .sl b ver off len cap => (match L[b]? with
      | some k => if tsize P e = some k.esz then evSlice (.sl b ver off len cap) (lo.map ρ) (hi.map ρ) (mx.map ρ) L else none
      | none => none)
    | some (.slice e), .ds own l => if (tsize P e).isSome = true ∧ (l.all fun x => tsize P e = some x.cells.length) = true then evSlice (.ds own l) (lo.map ρ) (hi.map ρ) (mx.map ρ) L else none
    | some .string, .str s => evSlice (.str s) (lo.map ρ) (hi.map ρ) (mx.map ρ) L
    | some (.array n e), .dptr cs off => if (lo = none ∧ hi = none ∧ mx = none) ∧ off = 0 ∧ cs.length = n ∧ 0 < n ∧ tsize P e = some 1 ∧ (cs.all AV.isCell) = true then some (.ds 0 cs) else none
    | _, _ => none
  | .fieldAddr s x f => evFA P s (ρ x) f L
  | .field t x f => evField P t (ρ x) f
  | .indexAddr t x i => match ρ i with
    | .int _ n => evIdxA P t (ρ x) n L
    | _ => none
  | .index t x i => match P.underlying t, ρ x, ρ i with
    | some .string, .str s, .int _ n => if 0 ≤ n ∧ n < s.size then some (.int .u8 (s.data.toList.getD n.toNat 0).toNat) else none
    | _, _, _ => none
  | .extract t i => match ρ t with
    | .tup l => if i < l.length then some (l.getD i .any) else none
    | _ => none
  | .call { callee := .builtin .len, args, argTypes } => match argTypes[0]?, args[0]? with
    | some t, some x => (match P.underlying t, ρ x with
      | some .string, .str s => some (.int .i64 s.size)
      | some (.slice _), .str _ => none
      | some (.slice _), v => evLen L v
      | _, _ => none)
    | _, _ => none
  | .call { callee := .builtin .max, args, argTypes := _ } => evTwo (fun a b => if b > a then b else a) (args.toList.map ρ)
  | .call { callee := .builtin .min, args, argTypes := _ } => evTwo (fun a b => if b < a then b else a) (args.toList.map ρ)
  | _ => none

end Go.Ev
namespace Go.Ev
open Go Go.RowKit
variable [Gl]

variable {P : Program}

theorem R.ofV1 {I J : Nat → Prop} {rf : Nat → Option E} {w : World} (v : Value) : R I J rf w (ofV1 v) v := by
  unfold Ev.ofV1
  split <;> constructor

theorem ofV1_cells (v : Value) : (Ev.ofV1 v).cells = [Ev.ofV1 v] := by
  unfold Ev.ofV1; split <;> rfl

theorem R.ofV {I J : Nat → Prop} {rf : Nat → Option E} {w : World} (v : Value) : R I J rf w (ofV v) v := by
  unfold Ev.ofV
  split
  · rename_i cs
    refine .agg _ _ (by simp) fun i hi => ?_
    simp at hi
    simp [hi]
    exact R.ofV1 _
  · exact R.ofV1 v

def CellsAt (I J : Nat → Prop) (rf : Nat → Option E) (w : World) (b o : Nat) (cs : List AV) : Prop :=
  ∀ j, j < cs.length → ∃ u, w.cell? ⟨b, o + j, none⟩ = some u ∧ R I J rf w (cs.getD j .any) u

theorem run_sizeOf {t : TypeId} {n : Nat} (h : tsize P t = some n) (w : World) : (sizeOf t).run P w = .ok n w := by
  unfold tsize at h
  cases hi : P.info? t with
  | none => simp [hi] at h
  | some i =>
    simp [hi] at h
    simp [sizeOf, typeInfo, hi, h]

theorem run_isAgg {t : TypeId} {g : Bool} (h : tagg P t = some g) (w : World) : (isAgg t).run P w = .ok g w := by
  unfold tagg at h
  cases hu : P.underlying t with
  | none => simp [hu] at h
  | some d =>
    simp [hu] at h
    subst h
    unfold isAgg
    simp only [Sem.run_bind, run_underlying hu, Result.andThen_ok]
    cases d <;> simp [isAggD]

theorem addr_add (b o n : Nat) : (Addr.mk b o none).add n = ⟨b, o + n, none⟩ := by
  unfold Addr.add; split <;> simp_all

theorem evRd_sound {I J : Nat → Prop} {rf : Nat → Option E} {w : World} {t : TypeId} {g : Bool} {n off b o : Nat} {cs : List AV} {v : AV}
    (hc : CellsAt I J rf w b o cs) (hg : tagg P t = some g) (hn : tsize P t = some n) (h : evRd g n off cs = some v) :
    ∃ u, (Instr.loadAt t (.pointer (some ⟨b, o + off, none⟩))).run P w = .ok u w ∧ R I J rf w v u := by
  unfold evRd at h
  simp only [Instr.loadAt, Instr.sureAddr, loadVar, Sem.run_bind, Sem.run_pure, Result.andThen_ok, run_isAgg hg]
  cases g with
  | true =>
    simp only [if_true] at h ⊢
    split at h
    · rename_i hle
      simp only [Option.some.injEq] at h
      subst h
      have hf : ∀ j, ∃ u, j < n → (w.cell? ⟨b, o + off + j, none⟩ = some u ∧ R I J rf w (cs.getD (off + j) .any) u) := fun j => by
        by_cases hj : j < n
        · obtain ⟨u, h1, h2⟩ := hc (off + j) (by omega)
          exact ⟨u, fun _ => ⟨by rw [Nat.add_assoc]; exact h1, h2⟩⟩
        · exact ⟨undef, fun h => absurd h hj⟩
      have ⟨f, hf⟩ := Classical.axiomOfChoice hf
      refine ⟨.agg ((List.range n).map f).toArray, ?_, .agg _ _ (by simp; omega) fun i hi => ?_⟩
      · simp only [Sem.run_bind, run_sizeOf hn, Result.andThen_ok]
        rw [run_loadCells w ⟨b, o + off, none⟩ n f (fun j hj => by rw [addr_add]; exact (hf j hj).1)]
        simp
      · simp at hi
        have := (hf i (by omega)).2
        simp only [List.getD_eq_getElem?_getD, List.getElem?_take, show i < n from by omega, if_true, List.getElem?_drop] at this ⊢
        simpa [show i < n from by omega] using this
    · simp at h
  | false =>
    simp only [Bool.false_eq_true, if_false] at h ⊢
    split at h
    · rename_i hlt
      simp only [Option.some.injEq] at h
      subst h
      obtain ⟨u, h1, h2⟩ := hc off hlt
      exact ⟨u, by simp [h1], h2⟩
    · simp at h

theorem cell_of_block {w : World} {b o : Nat} {c : Array Value} {ty : TypeId} {fr : Nat × Nat} (h : w.heap[b]? = some (.cells c ty fr)) (ho : o < c.size) :
    w.cell? ⟨b, o, none⟩ = some (c.getD o undef) := by
  simp [World.cell?, h, ho]

theorem rfOf_some {m : List (Nat × Nat × Nat)} {L : List Blk} {b : Nat} {e : E} (h : rfOf m L b = some e) :
    ∃ k x, L[b]? = some k ∧ m[b]? = some x ∧ e = ⟨k.l.length, x.1, x.2.1, x.2.2, k.esz⟩ := by
  unfold rfOf at h
  split at h
  · rename_i k x h1 h2
    exact ⟨k, x, h1, h2, by simpa using h.symm⟩
  · simp at h

theorem Rel.entry {V : Vw} {L : List Blk} {w : World} (hr : Rel V L w) {b : Nat} {k : Blk} (h : L[b]? = some k) :
    ∃ x, V.m[b]? = some x ∧ rfOf V.m L b = some ⟨k.l.length, x.1, x.2.1, x.2.2, k.esz⟩ := by
  have hb : b < V.m.length := by rw [hr.len]; exact (List.getElem?_eq_some_iff.1 h).1
  exact ⟨V.m[b], List.getElem?_eq_getElem hb, by simp [rfOf, h, List.getElem?_eq_getElem hb]⟩

theorem Rel.cellsAt {V : Vw} {L : List Blk} {w : World} (hr : Rel V L w) {b i : Nat} {k : Blk} {x : Nat × Nat × Nat} (h : L[b]? = some k) (hx : V.m[b]? = some x)
    (hi : i < k.l.length) : CellsAt V.I V.J (rfOf V.m L) w x.1 (x.2.1 + i * k.esz) (k.l.getD i .any).cells := by
  obtain ⟨c, ty, h1, h2, h3, h4, h5⟩ := hr.blk b k x h hx
  intro j hj
  rw [h4 i hi] at hj
  have : (i + 1) * k.esz ≤ k.l.length * k.esz := Nat.mul_le_mul_right _ hi
  rw [Nat.add_mul] at this
  exact ⟨_, cell_of_block h1 (by omega), h5 i j hi hj⟩

theorem R.ptr_inv {I J : Nat → Prop} {w : World} {m : List (Nat × Nat × Nat)} {L : List Blk} {b ver i off : Nat} {v : Value} {k : Blk} {x : Nat × Nat × Nat}
    (h : R I J (rfOf m L) w (.ptr b ver i off) v) (hk : L[b]? = some k) (hx : m[b]? = some x) (hv : k.l.length = ver) :
    v = .pointer (some ⟨x.1, x.2.1 + i * k.esz + off, none⟩) ∧ i < ver := by
  cases h with
  | ptr _ _ _ _ _ e h0 h1 h2 h3 =>
    obtain ⟨k', x', a1, a2, rfl⟩ := rfOf_some h1
    rw [hk] at a1; rw [hx] at a2
    cases a1; cases a2
    exact h3 hv

theorem R.sl_inv {I J : Nat → Prop} {w : World} {m : List (Nat × Nat × Nat)} {L : List Blk} {b ver off len cap : Nat} {v : Value} {k : Blk} {x : Nat × Nat × Nat}
    (h : R I J (rfOf m L) w (.sl b ver off len cap) v) (hk : L[b]? = some k) (hx : m[b]? = some x) (hv : k.l.length = ver) :
    ∃ a cap', v = .slice a len cap' ∧ len ≤ cap ∧ cap ≤ cap' ∧ (0 < cap' → a = some ⟨x.1, x.2.1 + off * k.esz, none⟩) ∧ x.2.1 + (off + cap') * k.esz ≤ x.2.2 ∧ off + cap ≤ ver := by
  cases h with
  | sl _ _ _ _ _ _ e h0 h1 h2 h3 =>
    obtain ⟨k', x', a1, a2, rfl⟩ := rfOf_some h1
    rw [hk] at a1; rw [hx] at a2
    cases a1; cases a2
    exact h3 hv

theorem evInt_sound {op : BinOp} {k : IntKind} {a b : Int} {v : AV} (h : evInt op k a b = some v) (t : TypeId) (w : World) {I J : Nat → Prop} {rf : Nat → Option E} :
    ∃ u, (binOp op t (.int k a) (.int k b)).run P w = .ok u w ∧ R I J rf w v u := by
  unfold evInt at h
  cases op <;> simp only [Option.some.injEq, reduceCtorEq] at h
  case quo =>
    split at h
    · simp at h
    · rename_i hb; simp at h; subst h
      exact ⟨.int k (k.wrap (a.tdiv b)), by rw [binOp_quo]; unfold Op.intDiv; rw [if_neg hb]; rfl, .int _ _⟩
  case rem =>
    split at h
    · simp at h
    · rename_i hb; simp at h; subst h
      exact ⟨.int k (a.tmod b), by rw [binOp_rem]; unfold Op.intDiv; rw [if_neg hb]; rfl, .int _ _⟩
  all_goals subst h
  all_goals first
    | refine ⟨_, ?_, .int _ _⟩
    | refine ⟨_, ?_, .bool _⟩
  all_goals simp [binOp, Op.intArith, Op.intCmp, Op.intBits]

theorem R.int_inv {I J : Nat → Prop} {rf : Nat → Option E} {w : World} {k : IntKind} {n : Int} {v : Value} (h : R I J rf w (.int k n) v) : v = .int k n := by
  cases h; rfl
theorem R.bool_inv {I J : Nat → Prop} {rf : Nat → Option E} {w : World} {b : Bool} {v : Value} (h : R I J rf w (.bool b) v) : v = .bool b := by
  cases h; rfl
theorem R.str_inv {I J : Nat → Prop} {rf : Nat → Option E} {w : World} {b : ByteArray} {v : Value} (h : R I J rf w (.str b) v) : v = .string b := by
  cases h; rfl

theorem eqGuard_plain (op : BinOp) (t : TypeId) (x y : Operand) (a b : Value) (w : World)
    (h : (∀ cs, a ≠ .agg cs) ∧ a ≠ .nilIface) : (eqGuard op t x y a b).run P w = .ok () w := by
  unfold eqGuard
  cases op <;> simp <;> (cases a <;> first | rfl | (simp_all; done) | (cases b <;> rfl))

theorem R.agg3 {I J : Nat → Prop} {rf : Nat → Option E} {w : World} {k1 k2 k3 : IntKind} {a1 a2 a3 : Int} {v : Value} (h : R I J rf w (.agg [.int k1 a1, .int k2 a2, .int k3 a3]) v) :
    v = .agg #[.int k1 a1, .int k2 a2, .int k3 a3] := by
  cases h with
  | agg _ arr h1 h2 =>
    have e0 := (h2 0 (by simp)).int_inv
    have e1 := (h2 1 (by simp)).int_inv
    have e2 := (h2 2 (by simp)).int_inv
    congr 1
    apply Array.ext
    · simpa using h1
    · intro i hi1 hi2
      have hi : i < 3 := by simpa using hi2
      match i, hi with
      | 0, _ => simpa [Array.getD_eq_getD_getElem?, hi1] using e0
      | 1, _ => simpa [Array.getD_eq_getD_getElem?, hi1] using e1
      | 2, _ => simpa [Array.getD_eq_getD_getElem?, hi1] using e2
theorem run_part_int {t : TypeId} {k : IntKind} (h : P.underlying t = some (.int k)) {xs : Array Value} {off : Nat} {v : Value} (hx : xs[off]? = some v) (w : World) : (part t xs off).run P w = .ok v w := by
  unfold part
  simp [isAgg, run_underlying h, hx]
theorem eq3F_int {f : Field} {i : Nat} (h : eq3F P f i = true) : f.name ≠ "_" ∧ f.offset = i ∧ ∃ k, P.underlying f.type = some (.int k) := by
  unfold eq3F at h
  simp only [Bool.and_eq_true, decide_eq_true_eq, beq_iff_eq] at h
  obtain ⟨h1, h2, h3⟩ := h
  refine ⟨h1, h2, ?_⟩
  split at h3
  · rename_i k hk; exact ⟨k, hk⟩
  · simp at h3
theorem run_eq3 {t : TypeId} (h : eq3 P t = true) (ox oy : Operand) (k1 k2 k3 : IntKind) (a1 a2 a3 b1 b2 b3 : Int) (w : World) :
    (do eqGuard .eql t ox oy (.agg #[.int k1 a1, .int k2 a2, .int k3 a3]) (.agg #[.int k1 b1, .int k2 b2, .int k3 b3]); binOp .eql t (.agg #[.int k1 a1, .int k2 a2, .int k3 a3]) (.agg #[.int k1 b1, .int k2 b2, .int k3 b3]) : Sem Value).run P w =
      .ok (.bool ((a1 == b1) && ((a2 == b2) && (a3 == b3)))) w := by
  unfold eq3 at h
  simp only [Bool.and_eq_true, Bool.not_eq_true'] at h
  obtain ⟨h1, h2, h3⟩ := h
  split at h3
  · rename_i fs hfs
    split at h3
    · rename_i f g e hl
      simp only [Bool.and_eq_true] at h3
      obtain ⟨⟨f1, f2, kf, f3⟩, ⟨g1, g2, kg, g3⟩, e1, e2, ke, e3⟩ := And.imp eq3F_int (And.imp eq3F_int eq3F_int) h3
      have hfo : P.fieldsOf t = fs := by unfold Program.fieldsOf; rw [hfs]
      simp only [Sem.run_bind, run_eqGuard_agg w .eql t ox oy _ _ h1, Result.andThen_ok, run_eql_struct]
      rw [show (10000 : Nat) = 9999 + 1 from rfl, run_equalIn_struct w 9999 t _ _ (by rw [hfo]; exact hfs) h2, hfo, hl]
      simp only [Op.eqFields, f1, g1, e1, f2, g2, e2, ne_eq, not_false_eq_true, if_true, Sem.run_bind]
      rw [run_part_int f3 (v := .int k1 a1) rfl, Result.andThen_ok, run_part_int f3 (v := .int k1 b1) rfl, Result.andThen_ok, run_equalIn_int w 9998 f.type k1 kf a1 b1 f3, Result.andThen_ok]
      cases c1 : (a1 == b1) with
      | false => simp
      | true =>
        simp only [Bool.not_true, Bool.false_eq_true, if_false, Sem.run_bind]
        rw [run_part_int g3 (v := .int k2 a2) rfl, Result.andThen_ok, run_part_int g3 (v := .int k2 b2) rfl, Result.andThen_ok, run_equalIn_int w 9998 g.type k2 kg a2 b2 g3, Result.andThen_ok]
        cases c2 : (a2 == b2) with
        | false => simp
        | true =>
          simp only [Bool.not_true, Bool.false_eq_true, if_false, Sem.run_bind]
          rw [run_part_int e3 (v := .int k3 a3) rfl, Result.andThen_ok, run_part_int e3 (v := .int k3 b3) rfl, Result.andThen_ok, run_equalIn_int w 9998 e.type k3 ke a3 b3 e3, Result.andThen_ok]
          cases c3 : (a3 == b3) <;> simp
    · simp at h3
  · simp at h3

theorem run_eqNil {t : TypeId} {ms : Array (String × TypeId)} (ht : P.underlying t = some (.interface ms)) (a : Value) (b : Bool) (ha : (a = .nilIface ∧ b = false) ∨ ((∃ q p, a = .iface q p) ∧ b = true)) (ox : Operand) (w : World) :
    (do eqGuard .eql t ox (.const .nilIface) a .nilIface; binOp .eql t a .nilIface : Sem Value).run P w = .ok (.bool (!b)) w ∧
    (do eqGuard .neq t ox (.const .nilIface) a .nilIface; binOp .neq t a .nilIface : Sem Value).run P w = .ok (.bool b) w := by
  rcases ha with ⟨rfl, rfl⟩ | ⟨⟨q, p, rfl⟩, rfl⟩
  · have h : ∀ d : Nat, (Op.equalIn (d + 1) t .nilIface .nilIface).run P w = .ok true w := fun d => by
      simp [Op.equalIn, run_underlying ht]
    constructor
    · simp only [eqGuard, binOp]
      simp [Op.equal, Op.maxDepth, h 9999]
    · simp only [eqGuard, binOp]
      simp [Op.equal, Op.maxDepth, h 9999]
  · have h : ∀ d : Nat, (Op.equalIn (d + 1) t (.iface q p) .nilIface).run P w = .ok false w := fun d => by
      simp [Op.equalIn, run_underlying ht]
    constructor
    · simp only [eqGuard, binOp]
      simp [Op.equal, Op.maxDepth, h 9999]
    · simp only [eqGuard, binOp]
      simp [Op.equal, Op.maxDepth, h 9999]

theorem evBin_sound {op : BinOp} {x y : AV} {v : AV} (t : TypeId) (ox oy : Operand) (h : evBin P op t oy x y = some v) (w : World) {I J : Nat → Prop} {rf : Nat → Option E} {a b : Value}
    (ha : R I J rf w x a) (hb : R I J rf w y b) (hy : ∀ c, oy = .const c → b = c) :
    ∃ u, (do eqGuard op t ox oy a b; binOp op t a b : Sem Value).run P w = .ok u w ∧ R I J rf w v u := by
  unfold evBin at h
  split at h
  · rename_i b0
    split at h
    · have hb0 := hy _ rfl
      subst hb0
      have hab : (a = .nilIface ∧ b0 = false) ∨ ((∃ q p, a = .iface q p) ∧ b0 = true) := by
        cases ha with
        | ifcN => exact .inl ⟨rfl, rfl⟩
        | ifcS q p => exact .inr ⟨⟨q, p, rfl⟩, rfl⟩
      unfold evNil at h
      split at h
      · rename_i ms ht
        simp at h; subst h
        exact ⟨_, (run_eqNil ht a b0 hab ox w).1, .bool _⟩
      · rename_i ms ht
        simp at h; subst h
        exact ⟨_, (run_eqNil ht a b0 hab ox w).2, .bool _⟩
      · simp at h
    · simp at h
  · rename_i xs ys
    unfold evAgg at h
    split at h
    · rename_i k1 a1 k2 a2 k3 a3 l1 b1 l2 b2 l3 b3
      split at h
      · rename_i hc
        obtain ⟨⟨rfl, rfl, rfl⟩, h3⟩ := hc
        have := ha.agg3; subst this
        have := hb.agg3; subst this
        cases h
        exact ⟨_, run_eq3 h3 ox oy _ _ _ _ _ _ _ _ _ w, .bool _⟩
      · cases h
    · cases h
  · rename_i k n k' n'
    have := ha.int_inv; subst this
    have := hb.int_inv; subst this
    split at h
    · rename_i hk; subst hk
      simp only [Sem.run_bind, eqGuard_plain op t ox oy (.int k n) (.int k n') w ⟨by simp, by simp⟩, Result.andThen_ok]
      exact evInt_sound h t w
    · simp at h
  · rename_i p q
    have := ha.bool_inv; subst this
    have := hb.bool_inv; subst this
    simp only [Sem.run_bind, eqGuard_plain op t ox oy (.bool p) (.bool q) w ⟨by simp, by simp⟩, Result.andThen_ok]
    split at h
    · rename_i ht
      split at h <;> simp at h <;> subst h
      · exact ⟨.bool (p == q), run_eql_bool w t p q ht, .bool _⟩
      · exact ⟨.bool (p != q), run_neq_bool w t p q ht, .bool _⟩
    · simp at h
  · rename_i p q
    have := ha.str_inv; subst this
    have := hb.str_inv; subst this
    simp only [Sem.run_bind, eqGuard_plain op t ox oy (.string p) (.string q) w ⟨by simp, by simp⟩, Result.andThen_ok]
    split at h
    · simp at h; subst h; exact ⟨.bool _, by simp [binOp, Op.stringOp], .bool _⟩
    · simp at h; subst h; exact ⟨.bool _, by simp [binOp, Op.stringOp], .bool _⟩
    · split at h
      · rename_i hle
        simp at h; subst h
        refine ⟨.string (p ++ q), ?_, .str _⟩
        simp only [binOp, Op.stringOp]
        rw [if_neg (by
          have e : IntKind.i64.max = 9223372036854775807 := rfl
          omega)]; rfl
      · simp at h
    · simp at h
  · simp at h

theorem evUn_sound {op : UnOp} {x : AV} {v : AV} (h : evUn op x = some v) (w : World) {I J : Nat → Prop} {rf : Nat → Option E} {a : Value}
    (ha : R I J rf w x a) : ∃ u, (Op.unary op a).run P w = .ok u w ∧ R I J rf w v u := by
  unfold evUn at h
  split at h <;> simp at h <;> subst h
  · have := ha.bool_inv; subst this; exact ⟨_, rfl, .bool _⟩
  · have := ha.int_inv; subst this; exact ⟨_, rfl, by rw [Int.zero_sub]; exact .int _ _⟩

end Go.Ev
namespace Go.Ev
open Go Go.RowKit
variable [Gl]

variable {P : Program}

theorem evField_sound {I J : Nat → Prop} {rf : Nat → Option E} {w : World} {t : TypeId} {f : Nat} {x v : AV} {a : Value} (ha : R I J rf w x a)
    (h : evField P t x f = some v) : ∃ u, (Instr.field t a f).run P w = .ok u w ∧ R I J rf w v u := by
  unfold evField at h
  split at h
  · rename_i fields cs ht
    split at h
    · rename_i fd hf
      split at h
      · rename_i g n hg hn
        cases ha with
        | agg _ arr hs hc =>
          have ea : (Instr.field t (.agg arr) f).run P w = (part fd.type arr fd.offset).run P w := by
            simp [Instr.field, run_underlying ht, hf, asAgg]
          rw [ea]
          unfold evRd at h
          simp only [part, Sem.run_bind, run_isAgg hg, Result.andThen_ok]
          cases g with
          | true =>
            simp only [if_true] at h ⊢
            split at h
            · rename_i hle
              simp at h; subst h
              refine ⟨.agg (arr.extract fd.offset (fd.offset + n)), by simp [run_sizeOf hn], .agg _ _ (by simp; omega) fun i hi => ?_⟩
              simp at hi
              have := hc (fd.offset + i) (by omega)
              have e1 : (List.take n (List.drop fd.offset cs)).getD i .any = cs.getD (fd.offset + i) .any := by
                simp only [List.getD_eq_getElem?_getD, List.getElem?_take, show i < n from by omega, if_true, List.getElem?_drop]
              have e2 : (arr.extract fd.offset (fd.offset + n)).getD i undef = arr.getD (fd.offset + i) undef := by
                simp [Array.getElem?_extract]
                rw [Nat.min_eq_left (by omega)]
                simp [show i < n from by omega]
              rw [e1, e2]; exact this
            · simp at h
          | false =>
            simp only [Bool.false_eq_true, if_false] at h ⊢
            split at h
            · rename_i hlt
              simp at h; subst h
              have := hc fd.offset hlt
              have e2 : arr[fd.offset]? = some (arr.getD fd.offset undef) := by simp [show fd.offset < arr.size by omega]
              exact ⟨arr.getD fd.offset undef, by rw [e2]; rfl, by simpa using this⟩
            · simp at h
      · simp at h
    · simp at h
  · simp at h

theorem okP_spec {L : List Blk} {b ver : Nat} (h : okP L b ver = true) : ∃ k, L[b]? = some k ∧ k.l.length = ver := by
  unfold okP at h
  split at h
  · exact ⟨_, ‹_›, by simpa using h⟩
  · simp at h

theorem Rel.ptr {V : Vw} {L : List Blk} {w : World} (hr : Rel V L w) {b ver i off : Nat} {v : Value} (h : R V.I V.J (rfOf V.m L) w (.ptr b ver i off) v)
    (hk : okP L b ver = true) : ∃ k x, L[b]? = some k ∧ k.l.length = ver ∧ V.m[b]? = some x ∧ v = .pointer (some ⟨x.1, x.2.1 + i * k.esz + off, none⟩) ∧ i < ver := by
  obtain ⟨k, h1, h2⟩ := okP_spec hk
  obtain ⟨x, h3, _⟩ := hr.entry h1
  obtain ⟨h4, h5⟩ := h.ptr_inv h1 h3 h2
  exact ⟨k, x, h1, h2, h3, h4, h5⟩

theorem Rel.mkptr {V : Vw} {L : List Blk} {w : World} (hr : Rel V L w) {b ver i off : Nat} {k : Blk} {x : Nat × Nat × Nat} (h1 : L[b]? = some k) (h2 : k.l.length = ver)
    (h3 : V.m[b]? = some x) (hi : i < ver) : R V.I V.J (rfOf V.m L) w (.ptr b ver i off) (.pointer (some ⟨x.1, x.2.1 + i * k.esz + off, none⟩)) := by
  obtain ⟨x', h4, h5⟩ := hr.entry h1
  rw [h3] at h4; cases h4
  exact .ptr _ _ _ _ _ _ rfl h5 (by simp [h2]) fun _ => ⟨rfl, hi⟩

theorem evFA_sound {V : Vw} {L : List Blk} {w : World} (hr : Rel V L w) {s : TypeId} {f : Nat} {x v : AV} {a : Value} (ha : R V.I V.J (rfOf V.m L) w x a)
    (h : evFA P s x f L = some v) : ∃ u, (Instr.fieldAt s a f).run P w = .ok u w ∧ R V.I V.J (rfOf V.m L) w v u := by
  unfold evFA at h
  split at h
  · rename_i fields hs
    split at h
    · rename_i fd hf
      split at h
      · rename_i n0 n hn
        have key : ∀ (b o off : Nat), (Instr.fieldAt s (.pointer (some ⟨b, o + off, none⟩)) f).run P w = .ok (.pointer (some ⟨b, o + (off + fd.offset), none⟩)) w := by
          intro b o off
          simp [Instr.fieldAt, run_underlying hs, hf, Instr.sureAddr, fieldPlace, run_sizeOf hn, addr_add, Nat.add_assoc]
        split at h
        · rename_i b ver i off
          split at h
          · rename_i hok
            simp at h; subst h
            obtain ⟨k, x, h1, h2, h3, rfl, h5⟩ := hr.ptr ha hok
            exact ⟨_, key _ _ _, hr.mkptr h1 h2 h3 h5⟩
          · simp at h
        · rename_i cs off
          simp at h; subst h
          cases ha with
          | dptr _ _ b o vs h1 h2 h3 =>
            exact ⟨_, key _ _ _, .dptr _ _ _ _ vs h1 h2 h3⟩
        · simp at h
      · simp at h
    · simp at h
  · simp at h

theorem evIdxA_sound {V : Vw} {L : List Blk} {w : World} (hr : Rel V L w) {t : TypeId} {n : Int} {kd : IntKind} {x v : AV} {a : Value} (ha : R V.I V.J (rfOf V.m L) w x a)
    (h : evIdxA P t x n L = some v) : ∃ u, (Instr.indexAt t a (.int kd n)).run P w = .ok u w ∧ R V.I V.J (rfOf V.m L) w v u := by
  unfold evIdxA at h
  split at h
  · rename_i e ht
    have key : ∀ (b o len cap sz : Nat), tsize P e = some sz → 0 ≤ n → n < len → (Instr.indexAt t (.slice (some ⟨b, o, none⟩) len cap) (.int kd n)).run P w = .ok (.pointer (some ⟨b, o + n.toNat * sz, none⟩)) w := by
      intro b o len cap sz hs h0 h1
      simp [Instr.indexAt, run_underlying ht, asIntOf, h0, h1, run_sizeOf hs, addr_add]
    split at h
    · rename_i b ver off len cap
      split at h
      · rename_i k hk
        split at h
        · rename_i hc
          obtain ⟨hv, hs, h0, h1⟩ := hc
          simp at h; subst h
          obtain ⟨x, hx, _⟩ := hr.entry hk
          obtain ⟨a', cap', rfl, c1, c2, c3, c4, c5⟩ := ha.sl_inv hk hx hv
          have hlen : 0 < cap' := by omega
          rw [c3 hlen]
          refine ⟨_, key _ _ _ _ _ hs h0 h1, ?_⟩
          have := hr.mkptr (i := off + n.toNat) (off := 0) hk hv hx (by omega)
          rw [Nat.add_mul, Nat.add_zero, ← Nat.add_assoc] at this
          exact this
        · simp at h
      · simp at h
    · rename_i own l
      split at h
      · rename_i hc
        obtain ⟨h0, h1, hs⟩ := hc
        obtain rfl := Option.some.inj h
        have hn : n.toNat < l.length := by omega
        cases ha with
        | ds0 => simp at hn
        | ds _ _ b o cap esz vs a1 a2 a3 a4 a5 a6 a7 a8 =>
          have he := a4 n.toNat hn
          rw [he] at hs
          have hb : (n.toNat + 1) * esz ≤ l.length * esz := Nat.mul_le_mul_right _ hn
          rw [Nat.add_mul] at hb
          refine ⟨_, key _ _ _ _ _ hs h0 h1, ?_⟩
          rw [← Nat.add_zero (o + n.toNat * esz)]
          refine .dptr _ 0 b (o + n.toNat * esz) (fun j => vs (n.toNat * esz + j)) a2 (fun j hj => ?_) (fun j hj => ?_)
          · rw [he] at hj
            rw [Nat.add_assoc]; exact a5 _ (by omega)
          · rw [he] at hj
            exact a6 _ _ hn hj
      · simp at h
    · simp at h
  · rename_i len e ht
    split at h
    · rename_i sz hs
      split at h
      · rename_i hc
        obtain ⟨h0, h1⟩ := hc
        have key : ∀ (b o off : Nat), (Instr.indexAt t (.pointer (some ⟨b, o + off, none⟩)) (.int kd n)).run P w = .ok (.pointer (some ⟨b, o + (off + n.toNat * sz), none⟩)) w := by
          intro b o off
          simp [Instr.indexAt, run_underlying ht, asIntOf, h0, h1, run_sizeOf hs, addr_add, Instr.sureAddr, Nat.add_assoc]
        split at h
        · rename_i b ver i off
          split at h
          · rename_i hok
            simp at h; subst h
            obtain ⟨k, x, h1, h2, h3, rfl, h5⟩ := hr.ptr ha hok
            exact ⟨_, key _ _ _, hr.mkptr h1 h2 h3 h5⟩
          · simp at h
        · rename_i cs off
          simp at h; subst h
          cases ha with
          | dptr _ _ b o vs h1 h2 h3 =>
            exact ⟨_, key _ _ _, .dptr _ _ _ _ vs h1 h2 h3⟩
        · simp at h
      · simp at h
    · simp at h
  · simp at h

end Go.Ev
namespace Go.Ev
open Go Go.RowKit
variable [Gl]

variable {P : Program}

theorem bnd_sound {I J : Nat → Prop} {rf : Nat → Option E} {w : World} {x : AV} {a : Value} {y n : Nat} (ha : R I J rf w x a) (h : bnd x y = some n) (code : BoundsCode) :
    (Instr.sliceBound a y code).run P w = .ok n w ∧ n ≤ y := by
  unfold bnd at h
  split at h
  · rename_i k i
    have := ha.int_inv; subst this
    split at h
    · rename_i hc
      simp at h; subst h
      exact ⟨run_sliceBound w k i y code hc.1 hc.2, by omega⟩
    · simp at h
  · simp at h

def RO (I J : Nat → Prop) (rf : Nat → Option E) (w : World) : Option AV → Option Value → Prop
  | none, none => True
  | some x, some a => R I J rf w x a
  | _, _ => False

theorem bounds_sound {I J : Nat → Prop} {rf : Nat → Option E} {w : World} {lo hi mx : Option AV} {lo' hi' mx' : Option Value} (isS : Bool) {len cap cap' m h l : Nat}
    (h1 : RO I J rf w lo lo') (h2 : RO I J rf w hi hi') (h3 : RO I J rf w mx mx') (hcap : cap ≤ cap')
    (hm : mxB mx cap = some m) (hh : hiB hi mx m len = some h) (hl : loB lo h = some l) :
    (Instr.sliceBounds isS len cap' lo' hi' mx').run P w = .ok (l, h, if mx.isSome then m else cap') w ∧ m ≤ cap ∧ (hi = none → h = len) ∧ (hi.isSome → h ≤ m) ∧ l ≤ h := by
  have mono : ∀ {x : AV} {y n z : Nat}, bnd x y = some n → y ≤ z → bnd x z = some n := by
    intro x y n z hx hyz
    unfold bnd at hx ⊢
    split at hx
    · split at hx
      · rename_i hc; rw [if_pos ⟨hc.1, by omega⟩]; exact hx
      · simp at hx
    · simp at hx
  unfold mxB at hm
  unfold hiB at hh
  unfold loB at hl
  cases mx with
  | none =>
    cases mx' with
    | some _ => exact h3.elim
    | none =>
      simp at hm; subst hm
      simp only [Option.isSome_none, Bool.false_eq_true, if_false] at hh ⊢
      cases hi with
      | none =>
        cases hi' with
        | some _ => exact h2.elim
        | none =>
          simp at hh; subst hh
          cases lo with
          | none =>
            cases lo' with
            | some _ => exact h1.elim
            | none => simp at hl; subst hl; exact ⟨by simp [Instr.sliceBounds], Nat.le_refl _, fun _ => rfl, by simp, by omega⟩
          | some x =>
            cases lo' with
            | none => exact h1.elim
            | some a =>
              have := bnd_sound (P := P) h1 hl .sliceB
              exact ⟨by simp [Instr.sliceBounds, this.1], Nat.le_refl _, fun _ => rfl, by simp, this.2⟩
      | some y =>
        cases hi' with
        | none => exact h2.elim
        | some b =>
          have e1 := fun code => (bnd_sound (P := P) h2 (mono hh hcap) code).1
          have e2 := (bnd_sound (P := P) h2 hh .index).2
          cases lo with
          | none =>
            cases lo' with
            | some _ => exact h1.elim
            | none => simp at hl; subst hl; exact ⟨by simp [Instr.sliceBounds, e1], Nat.le_refl _, by simp, fun _ => e2, by omega⟩
          | some x =>
            cases lo' with
            | none => exact h1.elim
            | some a =>
              have := bnd_sound (P := P) h1 hl .sliceB
              exact ⟨by simp [Instr.sliceBounds, this.1, e1], Nat.le_refl _, by simp, fun _ => e2, this.2⟩
  | some z =>
    cases mx' with
    | none => exact h3.elim
    | some c =>
      have e0 := fun code => (bnd_sound (P := P) h3 (mono hm hcap) code).1
      have e0' := (bnd_sound (P := P) h3 hm .index).2
      simp only [Option.isSome_some, if_true] at hh ⊢
      cases hi with
      | none => simp at hh
      | some y =>
        cases hi' with
        | none => exact h2.elim
        | some b =>
          have e1 := fun code => (bnd_sound (P := P) h2 hh code).1
          have e2 := (bnd_sound (P := P) h2 hh .index).2
          cases lo with
          | none =>
            cases lo' with
            | some _ => exact h1.elim
            | none => simp at hl; subst hl; exact ⟨by simp [Instr.sliceBounds, e0, e1], e0', by simp, fun _ => e2, by omega⟩
          | some x =>
            cases lo' with
            | none => exact h1.elim
            | some a =>
              have := bnd_sound (P := P) h1 hl .slice3C
              exact ⟨by simp [Instr.sliceBounds, this.1, e0, e1], e0', by simp, fun _ => e2, this.2⟩

theorem run_sliceAt {t e : TypeId} (ht : P.underlying t = some (.slice e)) {sz : Nat} (hs : tsize P e = some sz) (a : Option Addr) (len cap : Nat) (lo hi mx : Option Value) (w : World) {l h m : Nat}
    (hb : (Instr.sliceBounds true len cap lo hi mx).run P w = .ok (l, h, m) w) :
    (Instr.sliceAt t (.slice a len cap) lo hi mx).run P w = .ok (.slice (if m = l then a else a.map (·.add (l * sz))) (h - l) (m - l)) w := by
  simp [Instr.sliceAt, Instr.slice, run_underlying ht, hb, run_sizeOf hs]

theorem evSlice_sl_sound {V : Vw} {L : List Blk} {w : World} (hr : Rel V L w) {t e : TypeId} {b ver off len cap : Nat} {k : Blk} {v : AV} {a : Value} {lo hi mx : Option AV} {lo' hi' mx' : Option Value}
    (ht : P.underlying t = some (.slice e)) (hk : L[b]? = some k) (hs : tsize P e = some k.esz)
    (ha : R V.I V.J (rfOf V.m L) w (.sl b ver off len cap) a)
    (h1 : RO V.I V.J (rfOf V.m L) w lo lo') (h2 : RO V.I V.J (rfOf V.m L) w hi hi') (h3 : RO V.I V.J (rfOf V.m L) w mx mx')
    (h : evSlice (.sl b ver off len cap) lo hi mx L = some v) : ∃ u, (Instr.sliceAt t a lo' hi' mx').run P w = .ok u w ∧ R V.I V.J (rfOf V.m L) w v u := by
  simp only [evSlice, hk] at h
  split at h
  · rename_i hv
    obtain ⟨x, hx, hrf⟩ := hr.entry hk
    obtain ⟨a', cap', rfl, c1, c2, c3, c4, c5⟩ := ha.sl_inv hk hx hv
    simp only [Option.bind_eq_some_iff, Option.some.injEq] at h
    obtain ⟨m, hm, hh, hhe, l, hl, rfl⟩ := h
    obtain ⟨hb, b1, b2, b3, b4⟩ := bounds_sound (P := P) true h1 h2 h3 c2 hm hhe hl
    refine ⟨_, run_sliceAt ht hs a' len cap' lo' hi' mx' w hb, ?_⟩
    have hhm : hh ≤ m := by
      cases hi with
      | some y => exact b3 rfl
      | none =>
        have := b2 rfl
        cases mx with
        | some z => simp [hiB] at hhe
        | none => simp [mxB] at hm; omega
    refine .sl _ _ _ _ _ _ _ rfl hrf (by simp [hv]) fun _ => ⟨_, _, rfl, by omega, ?_, ?_, ?_, by omega⟩
    · split <;> omega
    · intro hpos
      simp only at hpos ⊢
      have hne : ¬ (if mx.isSome = true then m else cap') = l := by omega
      rw [if_neg hne]
      have hcp : 0 < cap' := by split at hpos <;> omega
      rw [c3 hcp]
      simp [addr_add, Nat.add_mul, Nat.add_assoc]
    · have h5 : (off + l + ((if mx.isSome = true then m else cap') - l)) ≤ off + cap' := by split <;> split at * <;> omega
      have := Nat.mul_le_mul_right k.esz h5
      simp only at this ⊢
      omega
  · simp at h

end Go.Ev
namespace Go.Ev
open Go Go.RowKit
variable [Gl]

variable {P : Program}

theorem evSlice_ds_sound {I J : Nat → Prop} {rf : Nat → Option E} {w : World} {t e : TypeId} {own : Nat} {l : List AV} {L : List Blk} {v : AV} {a : Value} {lo hi mx : Option AV} {lo' hi' mx' : Option Value}
    (ht : P.underlying t = some (.slice e)) (hs : l.all (fun x => tsize P e = some x.cells.length) = true) (hz : ∃ n, tsize P e = some n)
    (ha : R I J rf w (.ds own l) a)
    (h1 : RO I J rf w lo lo') (h2 : RO I J rf w hi hi') (h3 : RO I J rf w mx mx')
    (h : evSlice (.ds own l) lo hi mx L = some v) : ∃ u, (Instr.sliceAt t a lo' hi' mx').run P w = .ok u w ∧ R I J rf w v u := by
  simp only [evSlice] at h
  split at h
  · simp at h
  · rename_i hmx
    have hmx0 : mx = none := by cases mx <;> simp_all
    subst hmx0
    have hmx1 : mx' = none := by cases mx' <;> simp_all [RO]
    subst hmx1
    simp only [Option.bind_eq_some_iff, Option.some.injEq] at h
    obtain ⟨hh, hhe, l', hl, rfl⟩ := h
    obtain ⟨sz, hsz⟩ := hz
    have hA : ∃ ad cap, a = .slice ad l.length cap ∧ l.length ≤ cap := by
      cases ha with
      | ds0 _ ad cap a8 => exact ⟨ad, cap, rfl, Nat.zero_le _⟩
      | ds _ _ b o cap esz vs a1 a2 a3 a4 a5 a6 a7 a8 => exact ⟨_, _, rfl, a7⟩
    obtain ⟨ad, cap, rfl, hcap⟩ := hA
    obtain ⟨hb, b1, b2, b3, b4⟩ := bounds_sound (P := P) (m := l.length) true h1 h2 h3 hcap rfl hhe hl
    simp only [Option.isSome_none, Bool.false_eq_true, if_false] at hb
    have hhl : hh ≤ l.length := by
      cases hi with
      | some y => exact b3 rfl
      | none => have := b2 rfl; omega
    have hlen : ((l.take hh).drop l').length = hh - l' := by simp; omega
    refine ⟨_, run_sliceAt ht hsz ad l.length cap lo' hi' none w hb, ?_⟩
    rw [← hlen]
    by_cases he : (l.take hh).drop l' = []
    · rw [he]; exact .ds0 _ _ _ (by omega)
    · have hpos : l' < hh := by
        rcases Nat.lt_or_ge l' hh with h | h
        · exact h
        · exact absurd (List.eq_nil_of_length_eq_zero (by rw [hlen]; omega)) he
      rw [if_neg (by omega)]
      have hg : ∀ i, i < hh - l' → ((l.take hh).drop l').getD i .any = l.getD (l' + i) .any := fun i hi => by
        simp only [List.getD_eq_getElem?_getD, List.getElem?_drop, List.getElem?_take, show l' + i < hh from by omega, if_true]
      cases ha with
      | ds0 _ ad cap a8 => simp at hhl; omega
      | ds _ _ b o cap esz vs a1 a2 a3 a4 a5 a6 a7 a8 =>
        have hsz' : sz = esz := by
          have h0 : 0 < l.length := by omega
          have := List.all_eq_true.1 hs (l.getD 0 .any) (by simp [List.getD_eq_getElem?_getD, h0])
          simp only [decide_eq_true_eq] at this
          rw [a4 0 h0, hsz] at this
          exact Option.some.inj this
        subst hsz'
        simp only [Option.map_some, addr_add]
        have hm : (l' + (hh - l')) * sz ≤ l.length * sz := Nat.mul_le_mul_right _ (by omega)
        rw [Nat.add_mul] at hm
        refine .ds _ _ b (o + l' * sz) (cap - l') sz (fun i => vs (l' * sz + i)) (fun h => a1 (by omega)) a2 he (fun i hi => ?_) (fun i hi => ?_) (fun i j hi hj => ?_) (by omega) (by omega)
        · rw [hlen] at hi; rw [hg i hi]; exact a4 _ (by omega)
        · rw [hlen] at hi; rw [Nat.add_assoc]; exact a5 _ (by omega)
        · rw [hlen] at hi; rw [hg i hi]
          have := a6 (l' + i) j (by omega) hj
          rw [Nat.add_mul, Nat.add_assoc] at this
          exact this

theorem evSlice_str_sound {I J : Nat → Prop} {rf : Nat → Option E} {w : World} {t : TypeId} {s : ByteArray} {L : List Blk} {v : AV} {lo hi mx : Option AV} {lo' hi' mx' : Option Value}
    (ht : P.underlying t = some .string)
    (h1 : RO I J rf w lo lo') (h2 : RO I J rf w hi hi') (h3 : RO I J rf w mx mx')
    (h : evSlice (.str s) lo hi mx L = some v) : ∃ u, (Instr.sliceAt t (.string s) lo' hi' mx').run P w = .ok u w ∧ R I J rf w v u := by
  simp only [evSlice] at h
  split at h
  · simp at h
  · rename_i hmx
    have hmx0 : mx = none := by cases mx <;> simp_all
    subst hmx0
    have hmx1 : mx' = none := by cases mx' <;> simp_all [RO]
    subst hmx1
    simp only [Option.bind_eq_some_iff, Option.some.injEq] at h
    obtain ⟨hh, hhe, l', hl, rfl⟩ := h
    obtain ⟨hb, _⟩ := bounds_sound (P := P) (m := s.size) (len := s.size) false h1 h2 h3 (Nat.le_refl _) rfl hhe hl
    exact ⟨.string (s.extract l' hh), by simp [Instr.sliceAt, Instr.slice, run_underlying ht, hb], .str _⟩

theorem RO.map {I J : Nat → Prop} {rf : Nat → Option E} {w : World} {ρ : Operand → AV} {ev : Operand → Value} (hρ : ∀ x, R I J rf w (ρ x) (ev x)) (o : Option Operand) :
    RO I J rf w (o.map ρ) (o.map ev) := by cases o <;> simp [RO, hρ]

theorem evP_sound {V : Vw} {L : List Blk} {w : World} (hr : Rel V L w) {ρ : Operand → AV} {ev : Operand → Value} (hρ : ∀ x, R V.I V.J (rfOf V.m L) w (ρ x) (ev x))
    (hcst : ∀ x c, x = Operand.const c → ev x = c) {o : Oper} {v : AV} (h : evP P ρ L o.op = some v) : ∃ u, (execOp ev o).run P w = .ok (.value u) w ∧ R V.I V.J (rfOf V.m L) w v u := by
  have lift : ∀ {s : Sem Value} {u : Value}, s.run P w = .ok u w → (do pure (Next.value (← s)) : Sem Next).run P w = .ok (.value u) w := by
    intro s u hs; simp [hs]
  unfold evP at h
  split at h
  case h_1 x hop => simp at h; subst h; exact ⟨ev x, by simp [execOp, hop], hρ x⟩
  case h_2 x hop => simp at h; subst h; exact ⟨ev x, by simp [execOp, hop], hρ x⟩
  case h_3 c a b hop =>
    split at h
    · rename_i t hc
      have h1 := hρ c; rw [hc] at h1
      simp at h; subst h
      refine ⟨if t then ev a else ev b, ?_, by split <;> exact hρ _⟩
      simp [execOp, hop, h1.bool_inv, asBool]
    · simp at h
  case h_4 t a hop =>
    split at h
    · rename_i g n hg hn
      split at h
      · rename_i b ver i off ha
        split at h
        · rename_i k hk
          split at h
          · rename_i hc
            obtain ⟨x, hx, _⟩ := hr.entry hk
            have h1 := hρ a; rw [ha] at h1
            obtain ⟨h2, h3⟩ := h1.ptr_inv hk hx hc.1
            obtain ⟨u, h4, h5⟩ := evRd_sound (hr.cellsAt hk hx (by omega)) hg hn h
            refine ⟨u, ?_, h5⟩
            simp only [execOp, hop]; rw [h2]; exact lift h4
          · simp at h
        · simp at h
      · rename_i cs off ha
        have h1 := hρ a; rw [ha] at h1
        generalize hev : ev a = va at h1
        cases h1 with
        | dptr _ _ b o' vs a1 a2 a3 =>
          obtain ⟨u, h4, h5⟩ := evRd_sound (I := V.I) (J := V.J) (rf := rfOf V.m L) (w := w) (b := b) (o := o') (fun j hj => ⟨_, a2 j hj, a3 j hj⟩) hg hn h
          refine ⟨u, ?_, h5⟩
          simp only [execOp, hop]; rw [hev]; exact lift h4
      · simp at h
    · simp at h
  case h_5 x hop =>
    have h1 := hρ x
    split at h
    · rename_i b ver i off hx
      rw [hx] at h1
      split at h
      · rename_i hok
        simp at h; subst h
        obtain ⟨k, y, _, _, _, h5, _⟩ := hr.ptr h1 hok
        exact ⟨ev x, by simp [execOp, hop, h5], h1⟩
      · simp at h
    · rename_i cs off hx
      rw [hx] at h1
      simp at h; subst h
      refine ⟨ev x, ?_, h1⟩
      generalize hev : ev x = va at *
      cases h1 with
      | dptr => simp [execOp, hop, hev]
    · rename_i f c hx
      rw [hx] at h1
      simp at h; subst h
      refine ⟨ev x, ?_, h1⟩
      generalize hev : ev x = va at *
      cases h1 with
      | fn => simp [execOp, hop, hev]
    · simp at h
  case h_6 op t x y yt hop =>
    obtain ⟨u, h1, h2⟩ := evBin_sound t x y h w (hρ x) (hρ y) (hcst y)
    exact ⟨u, by simp only [execOp, hop]; exact lift h1, h2⟩
  case h_7 op t x hop =>
    obtain ⟨u, h1, h2⟩ := evUn_sound h w (hρ x)
    exact ⟨u, by simp only [execOp, hop]; exact lift h1, h2⟩
  case h_8 s d x hop =>
    split at h
    · rename_i k0 k k1 n hs hd hx
      have h1 := hρ x; rw [hx] at h1
      simp at h; subst h
      refine ⟨.int k (k.wrap n), ?_, .int _ _⟩
      simp only [execOp, hop, h1.int_inv]
      exact lift (by simp [convert, run_underlying hs, run_underlying hd, Conv.intToInt])
    · simp at h
  case h_9 f fi ca hop =>
    split at h
    · rename_i hfi
      simp at h; subst h
      have : fi = #[] := Array.eq_empty_of_size_eq_zero hfi
      subst this
      refine ⟨.func (.func f) #[] (ca.map ev), by simp [execOp, hop, Instr.makeFunc], .fn _ _ _ (by simp) fun i hi => ?_⟩
      simp at hi
      simpa [hi] using hρ _
    · simp at h
  case h_10 t x lo hi mx hop =>
    have h1 := hρ x
    split at h
    · rename_i e b ver off len cap ht hx
      rw [hx] at h1
      split at h
      · rename_i k hk
        split at h
        · rename_i hs
          obtain ⟨u, h4, h5⟩ := evSlice_sl_sound hr ht hk hs h1 (RO.map hρ lo) (RO.map hρ hi) (RO.map hρ mx) h
          exact ⟨u, by simp only [execOp, hop]; exact lift h4, h5⟩
        · simp at h
      · simp at h
    · rename_i e own l ht hx
      rw [hx] at h1
      split at h
      · rename_i hs
        obtain ⟨u, h4, h5⟩ := evSlice_ds_sound ht hs.2 (Option.isSome_iff_exists.1 hs.1) h1 (RO.map hρ lo) (RO.map hρ hi) (RO.map hρ mx) h
        exact ⟨u, by simp only [execOp, hop]; exact lift h4, h5⟩
      · simp at h
    · rename_i s ht hx
      rw [hx] at h1
      obtain ⟨u, h4, h5⟩ := evSlice_str_sound ht (RO.map hρ lo) (RO.map hρ hi) (RO.map hρ mx) h
      exact ⟨u, by simp only [execOp, hop, h1.str_inv]; exact lift h4, h5⟩
    · rename_i n e cs off ht hx
      rw [hx] at h1
      split at h
      · rename_i hc
        obtain ⟨⟨rfl, rfl, rfl⟩, rfl, c1, c2, c3, c4⟩ := hc
        simp at h; subst h
        subst c1
        generalize hva : ev x = va at h1
        cases h1 with
        | dptr _ _ blk o' vs a1 a2 a3 =>
          have hone : ∀ i, i < cs.length → (cs.getD i .any).cells = [cs.getD i .any] := fun i hi => by
            have := List.all_eq_true.1 c4 (cs.getD i .any) (by simp [hi])
            generalize cs.getD i .any = q at this
            cases q <;> simp_all [AV.cells, AV.isCell]
          refine ⟨.slice (some ⟨blk, o', none⟩) cs.length cs.length, ?_, ?_⟩
          · simp only [execOp, hop, hva]
            refine lift ?_
            have hn : ¬ cs.length = 0 := by omega
            simp [Instr.sliceAt, run_underlying ht, Instr.sureAddr, Instr.sliceBounds, run_sizeOf c3, hn, addr_add]
          · refine .ds 0 cs blk o' cs.length 1 vs (fun h => by omega) a1 (by intro h; rw [h] at c2; simp at c2) (fun i hi => by rw [hone i hi]; rfl) (fun i hi => a2 i (by omega)) (fun i j hi hj => ?_) (Nat.le_refl _) (fun h => by omega)
            have : j = 0 := by omega
            subst this
            rw [hone i hi]
            simpa using a3 i hi
      · simp at h
    · simp at h
  case h_11 s x f hop =>
    obtain ⟨u, h4, h5⟩ := evFA_sound hr (hρ x) h
    exact ⟨u, by simp only [execOp, hop]; exact lift h4, h5⟩
  case h_12 t x f hop =>
    obtain ⟨u, h4, h5⟩ := evField_sound (hρ x) h
    exact ⟨u, by simp only [execOp, hop]; exact lift h4, h5⟩
  case h_13 t x i hop =>
    split at h
    · rename_i k n hi
      have h1 := hρ i; rw [hi] at h1
      obtain ⟨u, h4, h5⟩ := evIdxA_sound (kd := k) hr (hρ x) h
      exact ⟨u, by simp only [execOp, hop, h1.int_inv]; exact lift h4, h5⟩
    · simp at h
  case h_14 t x i hop =>
    split at h
    · rename_i s k n ht hx hi
      have h1 := hρ x; rw [hx] at h1
      have h2 := hρ i; rw [hi] at h2
      split at h
      · rename_i hc
        simp at h; subst h
        have hn : n.toNat < s.size := by omega
        refine ⟨.int .u8 (s.data.toList.getD n.toNat 0).toNat, ?_, by simpa using R.int _ _⟩
        simp only [execOp, hop, h1.str_inv, h2.int_inv]
        refine lift ?_
        have e1 : s[n.toNat]? = some (s[n.toNat]'hn) := by simp [hn]
        have e2 : s.data.toList.getD n.toNat 0 = s[n.toNat]'hn := by
          have hn' : n.toNat < s.data.size := hn
          rw [List.getD_eq_getElem?_getD, Array.getElem?_toList, Array.getElem?_eq_getElem hn']; rfl
        rw [e2]
        simp [Instr.index, asIntOf, run_underlying ht, hc.1, e1]
      · simp at h
    · simp at h
  case h_15 t i hop =>
    split at h
    · rename_i l hl
      have h1 := hρ t; rw [hl] at h1
      split at h
      · rename_i hi
        obtain rfl := Option.some.inj h
        generalize hev : ev t = va at h1
        cases h1 with
        | tup _ arr hs hc =>
          refine ⟨arr.getD i undef, ?_, hc i hi⟩
          simp only [execOp, hop, hev]
          exact lift (by simp [Instr.extract, show i < arr.size by omega])
      · simp at h
    · simp at h
  case h_16 args argTypes hop =>
    split at h
    · rename_i t x ht hx
      have h1 := hρ x
      have hx' : (args.map ev)[0]? = some (ev x) := by simp [hx]
      split at h
      · rename_i s hu hs
        rw [hs] at h1
        simp at h; subst h
        refine ⟨goInt s.size, ?_, .int _ _⟩
        simp [execOp, hop, resolve, invoke, builtin, Builtin.len_, ht, hx, h1.str_inv, run_underlying hu]
      · simp at h
      · rename_i e y hu hns
        have key : ∀ ad n c, ev x = .slice ad n c → (execOp ev o).run P w = .ok (.value (.int .i64 n)) w := fun ad n c he => by
          simp [execOp, hop, resolve, invoke, builtin, Builtin.len_, ht, hx, he, run_underlying hu, goInt]
        generalize hy : ρ x = y at h h1 hns
        unfold evLen at h
        split at h
        · rename_i b ver off len cap
          split at h
          · rename_i hok
            simp at h; subst h
            obtain ⟨k, hk, hv⟩ := okP_spec hok
            obtain ⟨x', hx'', _⟩ := hr.entry hk
            obtain ⟨a', cap', he, _⟩ := h1.sl_inv hk hx'' hv
            exact ⟨_, key _ _ _ he, .int _ _⟩
          · simp at h
        · rename_i own l
          simp at h
          subst h
          generalize hev : ev x = va at h1
          cases h1 with
          | ds0 _ ad cap a8 => exact ⟨_, key _ _ _ hev, .int _ _⟩
          | ds _ _ b o cap esz vs a1 a2 a3 a4 a5 a6 a7 a8 => exact ⟨_, key _ _ _ hev, .int _ _⟩
        · simp at h
          subst h
          generalize hev : ev x = va at h1
          cases h1 with
          | nilS ad => exact ⟨_, key _ _ _ hev, .int _ _⟩
        · exact absurd rfl (hns _)
        · simp at h
      · simp at h
    · simp at h
  case h_17 args ts hop =>
    unfold evTwo at h
    split at h
    · rename_i k a k' b hl
      obtain rfl := Option.some.inj h
      obtain ⟨x, y, rfl⟩ : ∃ x y, args = #[x, y] := by
        have := congrArg List.length hl
        simp at this
        obtain ⟨l⟩ := args
        match l, this with
        | [x, y], _ => exact ⟨x, y, rfl⟩
      simp only [List.map_cons, List.map_nil, List.cons.injEq, and_true] at hl
      have h1 := hρ x
      have h2 := hρ y
      rw [hl.1] at h1
      rw [hl.2] at h2
      refine ⟨.int k (if b > a then b else a), ?_, .int _ _⟩
      simp [execOp, hop, resolve, invoke, builtin, Builtin.max_, Builtin.max2, h1.int_inv, h2.int_inv]
    · simp at h
  case h_18 args ts hop =>
    unfold evTwo at h
    split at h
    · rename_i k a k' b hl
      obtain rfl := Option.some.inj h
      obtain ⟨x, y, rfl⟩ : ∃ x y, args = #[x, y] := by
        have := congrArg List.length hl
        simp at this
        obtain ⟨l⟩ := args
        match l, this with
        | [x, y], _ => exact ⟨x, y, rfl⟩
      simp only [List.map_cons, List.map_nil, List.cons.injEq, and_true] at hl
      have h1 := hρ x
      have h2 := hρ y
      rw [hl.1] at h1
      rw [hl.2] at h2
      refine ⟨.int k (if b < a then b else a), ?_, .int _ _⟩
      simp [execOp, hop, resolve, invoke, builtin, Builtin.min_, Builtin.min2, h1.int_inv, h2.int_inv]
    · simp at h
  case h_19 => simp at h

end Go.Ev
namespace Go.Ev
open Go Go.RowKit
variable [Gl]

variable {P : Program}

theorem Rel.blt {V : Vw} {L : List Blk} {w : World} (hr : Rel V L w) {b : Nat} {x : Nat × Nat × Nat} (h : V.m[b]? = some x) : x.1 < w.heap.size := by
  have hb : b < L.length := by rw [← hr.len]; exact (List.getElem?_eq_some_iff.1 h).1
  obtain ⟨c, ty, h1, _⟩ := hr.blk b L[b] x (List.getElem?_eq_getElem hb) h
  exact (Array.getElem?_eq_some_iff.1 h1).1

theorem rfOf_congr {m m' : List (Nat × Nat × Nat)} {L L' : List Blk} {b : Nat} (h1 : L'[b]? = L[b]?) (h2 : m'[b]? = m[b]?) : rfOf m' L' b = rfOf m L b := by
  simp [rfOf, h1, h2]

theorem rfExt_append {m m2 : List (Nat × Nat × Nat)} {L L2 : List Blk} (hl : m.length = L.length) : rfExt (rfOf m L) (rfOf (m ++ m2) (L ++ L2)) := by
  intro b e he
  obtain ⟨k, x, h1, h2, _⟩ := rfOf_some he
  have hb : b < L.length := (List.getElem?_eq_some_iff.1 h1).1
  refine ⟨e, ?_, Nat.le_refl _, fun _ => rfl⟩
  rw [rfOf_congr (m := m) (L := L)]
  · exact he
  · rw [List.getElem?_append_left hb]
  · rw [List.getElem?_append_left (by omega)]

theorem Rel.alloc {V : Vw} {L : List Blk} {w w' : World} (hr : Rel V L w) (k : Blk) (c : Array Value) (ty : TypeId) (hh : w'.heap = w.heap.push (.cells c ty (0, 0)))
    (ho : w'.os = w.os) (ht : w'.tape = w.tape) (hu : w'.output = w.output) (hc : k.l.length * k.esz ≤ c.size)
    (hl : ∀ i, i < k.l.length → (k.l.getD i .any).cells.length = k.esz)
    (hR : ∀ i j, i < k.l.length → j < k.esz → R V.I V.J (rfOf V.m L) w ((k.l.getD i .any).cells.getD j .any) (c.getD (i * k.esz + j) undef))
    (hbig : k.esz = 1 → c.size ≤ 9223372036854775807) :
    Rel { V with m := V.m ++ [(w.heap.size, 0, c.size)] } (L ++ [k]) w' ∧ Step V w { V with m := V.m ++ [(w.heap.size, 0, c.size)] } w' ∧
      rfExt (rfOf V.m L) (rfOf (V.m ++ [(w.heap.size, 0, c.size)]) (L ++ [k])) := by
  have hst : Step V w { V with m := V.m ++ [(w.heap.size, 0, c.size)] } w' := by
    refine ⟨rfl, rfl, fun _ h => h, fun x hx hm => ⟨?_, fun b e he => ?_, fun h => h⟩, by simp [hh], ho, ht, hu⟩
    · rw [hh, Array.getElem?_push, if_neg (by omega)]
    · simp only [List.getElem?_append] at he
      split at he
      · exact hm b e he
      · simp only [List.getElem?_cons] at he
        split at he
        · cases he; simp; omega
        · simp at he
  have hx := rfExt_append (m2 := [(w.heap.size, 0, c.size)]) (L2 := [k]) hr.len
  refine ⟨⟨by simp [hr.len], fun b k' x h1 h2 => ?_, fun b x h => ?_, fun b b' x x' h1 h2 h3 => ?_, fun x h => ?_, fun x h => ?_, ?_, fun b k' x h1 h2 h3 => ?_, hr.globS hst⟩, hst, hx⟩
  · by_cases hb : b < L.length
    · rw [List.getElem?_append_left hb] at h1
      rw [List.getElem?_append_left (by rw [hr.len]; exact hb)] at h2
      obtain ⟨c', ty', a1, a2, a3, a4, a5⟩ := hr.blk b k' x h1 h2
      have := hr.blt h2
      refine ⟨c', ty', ?_, a2, a3, a4, fun i j hi hj => (a5 i j hi hj).step hr hst hx⟩
      rw [hh, Array.getElem?_push, if_neg (by omega)]; exact a1
    · have hbl : b = L.length := by
        have := (List.getElem?_eq_some_iff.1 h1).1
        simp at this; omega
      subst hbl
      simp at h1; subst h1
      rw [← hr.len] at h2
      simp at h2; subst h2
      refine ⟨c, ty, by rw [hh]; simp, rfl, by simpa using hc, hl, fun i j hi hj => ?_⟩
      rw [Nat.zero_add]
      exact (hR i j hi hj).step hr hst hx
  · simp only [List.getElem?_append] at h
    split at h
    · exact hr.fresh b x h
    · simp only [List.getElem?_cons] at h
      split at h
      · cases h
        exact ⟨hr.Bsz, fun hI => absurd (hr.Ilt _ hI) (by simp), fun hJ => absurd (hr.Jlt _ hJ).2 (by simp)⟩
      · simp at h
  · have old : ∀ {b x}, b < V.m.length → (V.m ++ [(w.heap.size, 0, c.size)])[b]? = some x → V.m[b]? = some x := fun hb h => by rwa [List.getElem?_append_left hb] at h
    have new : ∀ {b x}, ¬ b < V.m.length → (V.m ++ [(w.heap.size, 0, c.size)])[b]? = some x → b = V.m.length ∧ x.1 = w.heap.size := fun {b x} hb h => by
      have hlt := (List.getElem?_eq_some_iff.1 h).1
      simp at hlt
      have : b = V.m.length := by omega
      subst this
      simp at h
      exact ⟨rfl, by rw [← h]⟩
    by_cases hb : b < V.m.length <;> by_cases hb' : b' < V.m.length
    · exact hr.inj b b' x x' (old hb h1) (old hb' h2) h3
    · have := hr.blt (old hb h1); have := (new hb' h2).2; omega
    · have := hr.blt (old hb' h2); have := (new hb h1).2; omega
    · rw [(new hb h1).1, (new hb' h2).1]
  · have := hr.Ilt x h; rw [hh]; simp; omega
  · have := hr.Jlt x h; rw [hh]; simp; omega
  · have := hr.Bsz; rw [hh]; simp; omega
  · by_cases hb : b < L.length
    · rw [List.getElem?_append_left hb] at h1
      rw [List.getElem?_append_left (by rw [hr.len]; exact hb)] at h2
      exact hr.big b k' x h1 h2 h3
    · have hbl : b = L.length := by
        have := (List.getElem?_eq_some_iff.1 h1).1
        simp at this; omega
      subst hbl
      simp at h1; subst h1
      rw [← hr.len] at h2
      simp at h2; subst h2
      exact hbig h3

theorem Rel.allocJ {V : Vw} {L : List Blk} {w w' : World} (hr : Rel V L w) (o : Obj) (hh : w'.heap = w.heap.push o)
    (ho : w'.os = w.os) (ht : w'.tape = w.tape) (hu : w'.output = w.output) :
    Rel { V with J := fun x => V.J x ∨ x = w.heap.size } L w' ∧ Step V w { V with J := fun x => V.J x ∨ x = w.heap.size } w' := by
  have hst : Step V w { V with J := fun x => V.J x ∨ x = w.heap.size } w' := by
    refine ⟨rfl, rfl, fun _ h => .inl h, fun x hx hm => ⟨?_, hm, fun h => h.elim id fun h => absurd h (Nat.ne_of_lt hx)⟩, by simp [hh], ho, ht, hu⟩
    rw [hh, Array.getElem?_push, if_neg (by omega)]
  refine ⟨⟨hr.len, fun b k' x h1 h2 => ?_, fun b x h => ?_, hr.inj, fun x h => ?_, fun x h => ?_, ?_, hr.big, hr.globS hst⟩, hst⟩
  · obtain ⟨c', ty', a1, a2, a3, a4, a5⟩ := hr.blk b k' x h1 h2
    have := hr.blt h2
    refine ⟨c', ty', ?_, a2, a3, a4, fun i j hi hj => (a5 i j hi hj).step hr hst (rfExt.refl _)⟩
    rw [hh, Array.getElem?_push, if_neg (by omega)]; exact a1
  · have h1 := hr.fresh b x h
    have h2 := hr.blt h
    exact ⟨h1.1, h1.2.1, fun hj => hj.elim h1.2.2 (by omega)⟩
  · have := hr.Ilt x h; rw [hh]; simp; omega
  · rw [hh]
    simp
    rcases h with h | h
    · have := hr.Jlt x h; omega
    · have := hr.Bsz; omega
  · have := hr.Bsz; rw [hh]; simp; omega

theorem getElem?_set' {α : Type} (l : List α) (i j : Nat) (a : α) : (l.set i a)[j]? = if i = j then (if j < l.length then some a else none) else l[j]? := by
  rw [List.getElem?_set]
  split <;> simp_all

theorem Rel.upd {V : Vw} {L : List Blk} {w w' : World} (hr : Rel V L w) {b : Nat} {k k' : Blk} {x x' : Nat × Nat × Nat} (hk : L[b]? = some k) (hx : V.m[b]? = some x)
    (hold : ∀ y, y < w.heap.size → y ≠ x.1 → w'.heap[y]? = w.heap[y]?) (hsz : w.heap.size ≤ w'.heap.size)
    (ho : w'.os = w.os) (ht : w'.tape = w.tape) (hu : w'.output = w.output)
    (hx' : x'.1 = x.1 ∨ x'.1 = w.heap.size)
    (hv : k.l.length < k'.l.length ∨ (k'.l.length = k.l.length ∧ k'.esz = k.esz ∧ x' = x))
    (c : Array Value) (ty : TypeId) (hh : w'.heap[x'.1]? = some (.cells c ty (0, 0))) (hc : c.size = x'.2.2) (hfit : x'.2.1 + k'.l.length * k'.esz ≤ x'.2.2)
    (hl : ∀ i, i < k'.l.length → (k'.l.getD i .any).cells.length = k'.esz)
    (hR : ∀ i j, i < k'.l.length → j < k'.esz → R V.I V.J (rfOf V.m L) w ((k'.l.getD i .any).cells.getD j .any) (c.getD (x'.2.1 + i * k'.esz + j) undef))
    (hbig : k'.esz = 1 → x'.2.2 ≤ 9223372036854775807) :
    Rel { V with m := V.m.set b x' } (L.set b k') w' ∧ Step V w { V with m := V.m.set b x' } w' ∧
      rfExt (rfOf V.m L) (rfOf (V.m.set b x') (L.set b k')) := by
  have hbL : b < L.length := (List.getElem?_eq_some_iff.1 hk).1
  have hbm : b < V.m.length := by rw [hr.len]; exact hbL
  have hxlt := hr.blt hx
  have hx'lt : x'.1 < w'.heap.size := (Array.getElem?_eq_some_iff.1 hh).1
  have hst : Step V w { V with m := V.m.set b x' } w' := by
    refine ⟨rfl, rfl, fun _ h => h, fun y hy hm => ⟨hold y hy (fun e => hm b x hx e.symm), fun b' e he => ?_, fun h => h⟩, hsz, ho, ht, hu⟩
    simp only [getElem?_set'] at he
    split at he
    · rename_i hbb
      subst hbb
      rw [if_pos hbm] at he
      cases he
      rcases hx' with h | h
      · rw [h]; exact hm b x hx
      · omega
    · exact hm b' e he
  have hext : rfExt (rfOf V.m L) (rfOf (V.m.set b x') (L.set b k')) := by
    intro b' e he
    by_cases hb : b = b'
    · subst hb
      obtain ⟨k0, x0, h1, h2, rfl⟩ := rfOf_some he
      rw [hk] at h1; cases h1
      rw [hx] at h2; cases h2
      refine ⟨⟨k'.l.length, x'.1, x'.2.1, x'.2.2, k'.esz⟩, by simp [rfOf, hbL, hbm], ?_, ?_⟩
      · simp only; omega
      · simp only
        intro hv'
        rcases hv with h | ⟨_, h2, h3⟩
        · omega
        · subst h3; simp [hv', h2]
    · exact ⟨e, by rw [rfOf_congr (m := V.m) (L := L) (by simp [hb]) (by simp [hb])]; exact he, Nat.le_refl _, fun _ => rfl⟩
  refine ⟨⟨by simp [hr.len], fun b' k1 x1 h1 h2 => ?_, fun b' x1 h => ?_, fun b1 b2 x1 x2 h1 h2 h3 => ?_, fun y h => Nat.lt_of_lt_of_le (hr.Ilt y h) hsz,
    fun y h => ⟨(hr.Jlt y h).1, Nat.lt_of_lt_of_le (hr.Jlt y h).2 hsz⟩, Nat.le_trans hr.Bsz hsz, fun b' k1 x1 h1 h2 h3 => ?_, hr.globS hst⟩, hst, hext⟩
  · by_cases hb : b = b'
    · subst hb
      simp [hbL] at h1
      simp [hbm] at h2
      subst h1; subst h2
      exact ⟨c, ty, hh, hc, hfit, hl, fun i j hi hj => (hR i j hi hj).step hr hst hext⟩
    · simp [hb] at h1 h2
      obtain ⟨c', ty', a1, a2, a3, a4, a5⟩ := hr.blk b' k1 x1 h1 h2
      refine ⟨c', ty', ?_, a2, a3, a4, fun i j hi hj => (a5 i j hi hj).step hr hst hext⟩
      rw [hold _ (hr.blt h2) (fun e => hb (hr.inj b b' x x1 hx h2 e.symm))]; exact a1
  · simp only [getElem?_set'] at h
    split at h
    · rename_i hbb; subst hbb
      rw [if_pos hbm] at h; cases h
      rcases hx' with h | h
      · rw [h]; exact hr.fresh b x hx
      · rw [h]; exact ⟨hr.Bsz, fun hI => absurd (hr.Ilt _ hI) (by simp), fun hJ => absurd (hr.Jlt _ hJ).2 (by simp)⟩
    · exact hr.fresh b' x1 h
  · simp only [getElem?_set'] at h1 h2
    by_cases e1 : b = b1 <;> by_cases e2 : b = b2
    · rw [← e1, ← e2]
    · rw [if_pos e1] at h1; rw [if_neg e2] at h2
      subst e1
      rw [if_pos hbm] at h1; cases h1
      have := hr.blt h2
      rcases hx' with h | h
      · exact hr.inj b b2 x x2 hx h2 (by rw [← h, h3])
      · omega
    · rw [if_neg e1] at h1; rw [if_pos e2] at h2
      subst e2
      rw [if_pos hbm] at h2; cases h2
      have := hr.blt h1
      rcases hx' with h | h
      · exact hr.inj b1 b x1 x h1 hx (by rw [← h, ← h3])
      · omega
    · rw [if_neg e1] at h1; rw [if_neg e2] at h2
      exact hr.inj b1 b2 x1 x2 h1 h2 h3
  · by_cases hb : b = b'
    · subst hb
      simp [hbL] at h1
      simp [hbm] at h2
      subst h1; subst h2
      exact hbig h3
    · simp [hb] at h1 h2
      exact hr.big b' k1 x1 h1 h2 h3

end Go.Ev
namespace Go.Ev
open Go Go.RowKit
variable [Gl]

def cellsOk (x : AV) : Bool := x.isElem && x.cells.all AV.isCell

def splice (e : AV) (off : Nat) (cs : List AV) : AV :=
  match e with
  | .agg l => .agg (l.take off ++ cs ++ l.drop (off + cs.length))
  | _ => cs.getD 0 .any

def overwrite (l : List AV) (i : Nat) (new : List AV) : List AV := l.take i ++ new ++ l.drop (i + new.length)

def evApp (L : List Blk) (s : AV) (new : List AV) (sz bytes : Nat) : Option (AV × List Blk) :=
  match s with
  | .nilS => if new.isEmpty then some (s, L) else if new.length * bytes ≤ 140737488355328 ∧ new.length ≤ 9223372036854775807 then
      some (.sl L.length new.length 0 new.length new.length, L ++ [⟨sz, new⟩]) else none
  | .ds tag l => if new.isEmpty then some (.ds tag l, L) else
      if tag = 2 ∧ (l.all fun x => x.cells.length = sz) = true ∧ (l.length + new.length) * bytes ≤ 140737488355328 ∧ l.length + new.length ≤ 9223372036854775807 then
        some (.sl L.length (l.length + new.length) 0 (l.length + new.length) (l.length + new.length), L ++ [⟨sz, l ++ new⟩]) else none
  | .sl b ver off len cap => match L[b]? with
    | some k => if k.l.length = ver ∧ k.esz = sz then
        (if len + new.length ≤ cap then some (.sl b ver off (len + new.length) cap, L.set b ⟨sz, overwrite k.l (off + len) new⟩)
        else if off = 0 ∧ len = ver ∧ (len + new.length) * bytes ≤ 140737488355328 ∧ len + new.length ≤ 9223372036854775807 then
          some (.sl b (len + new.length) 0 (len + new.length) (len + new.length), L.set b ⟨sz, k.l ++ new⟩) else none)
      else none
    | none => none
  | _ => none

def evCopy (L : List Blk) (s : AV) (new : List AV) (sz : Nat) : Option (AV × List Blk) :=
  match s with
  | .sl b ver off len cap => match L[b]? with
    | some k => if k.l.length = ver ∧ k.esz = sz ∧ off + len ≤ ver ∧ len ≤ cap then some (.int .i64 ((min new.length len : Nat) : Int), L.set b ⟨sz, overwrite k.l off (new.take len)⟩) else none
    | none => none
  | _ => none

def fillE (sz : Nat) : List AV → List (Nat × AV) → Option (List AV)
  | l, [] => some l
  | l, (i, x) :: r => if i < l.length ∧ x.isElem = true ∧ x.cells.length = sz then fillE sz (l.set i x) r else none

def fillS (P : Program) (fields : Array Field) : List AV → List (Nat × AV) → Option (List AV)
  | l, [] => some l
  | l, (i, x) :: r => match fields[i]? with
    | some fd => if tsize P fd.type = some x.cells.length ∧ x.isElem = true ∧ fd.offset + x.cells.length ≤ l.length then
        fillS P fields (l.take fd.offset ++ x.cells ++ l.drop (fd.offset + x.cells.length)) r else none
    | none => none

def fieldsOK (P : Program) (t : TypeId) : Bool :=
  match P.underlying t with
  | some (.struct fs) => fs.toList.all fun fd => (tsize P fd.type).isSome
  | _ => false

def isTmp : Operand → Bool
  | .tmp _ => true
  | _ => false
def litB [Lit] (parts : Array (Nat × Operand)) : Bool := Lit.b && parts.any fun p => isTmp p.2
def evE [Lit] (P : Program) (ρ : Operand → AV) (L : List Blk) : Op → Option (AV × List Blk)
  | .alloc t => (tzero P t).map fun z => (.ptr L.length 1 0 0, L ++ [⟨z.cells.length, [z]⟩])
  | .box _ x => if (ρ x).isElem then some (.ptr L.length 1 0 0, L ++ [⟨(ρ x).cells.length, [ρ x]⟩]) else none
  | .build t parts => match P.underlying t, tzero P t with
    | some (.struct fields), some z => if fieldsOK P t = true then (fillS P fields z.cells (parts.toList.map fun p => (p.1, ρ p.2))).map fun l => (.agg l, L) else none
    | _, _ => none
  | .buildSlice t len parts => match P.underlying t with
    | some (.slice e) => (match tzero P e, tsize P e with
      | some z, some sz => if z.cells.length = sz ∧ len * sz ≤ 16777216 ∧ 0 < sz then
          (if len = 0 then (if parts.size = 0 then some (.sl L.length 0 0 0 0, L ++ [⟨sz, []⟩]) else none)
          else (fillE sz (List.replicate len z) (parts.toList.map fun p => (p.1, ρ p.2))).map fun l => if litB parts = true then (.sl L.length len 0 len len, L ++ [⟨sz, l⟩]) else (.ds 2 l, L)) else none
      | _, _ => none)
    | _ => none
  | .makeSlice t l c => match P.underlying t, ρ l, ρ c with
    | some (.slice e), .int _ n, .int _ n' => (match tzero P e, tsize P e, tbytes P e with
      | some z, some sz, some by' => if 0 ≤ n ∧ n ≤ n' ∧ n' ≤ 9223372036854775807 ∧ by' * n' ≤ 281474976710656 ∧ z.cells.length = sz ∧ 0 < sz then
          some (.sl L.length n'.toNat 0 n.toNat n'.toNat, L ++ [⟨sz, List.replicate n'.toNat z⟩]) else none
      | _, _, _ => none)
    | _, _, _ => none
  | .store t a x => match tsize P t, ρ a with
    | some n, .ptr b ver i off => (match L[b]? with
      | some k => if k.l.length = ver ∧ i < ver ∧ (ρ x).cells.length = n ∧ cellsOk (ρ x) = true ∧ off + n ≤ (k.l.getD i .any).cells.length ∧ 0 < n then
          some (.any, L.set b ⟨k.esz, k.l.set i (splice (k.l.getD i .any) off (ρ x).cells)⟩) else none
      | none => none)
    | _, _ => none
  | .call { callee := .builtin .append, args, argTypes } => match argTypes[0]?, argTypes[1]?, args[0]?, args[1]? with
    | some t, some u, some s, some x => (match P.underlying t, P.underlying u with
      | some (.slice e), some (.slice _) => (match tsize P e, tbytes P e, tzero P e, elems L (ρ x) with
        | some sz, some by', some z, some new => if z.cells.length = sz ∧ 0 < sz ∧ (new.all fun y => cellsOk y && decide (y.cells.length = sz)) = true then evApp L (ρ s) new sz by' else none
        | _, _, _, _ => none)
      | _, _ => none)
    | _, _, _, _ => none
  | .call { callee := .builtin .copy, args, argTypes } => match argTypes[0]?, argTypes[1]?, args[0]?, args[1]? with
    | some t, some _, some s, some x => (match P.underlying t with
      | some (.slice e) => (match tsize P e, elems L (ρ x) with
        | some sz, some new => if 0 < sz ∧ (new.all fun y => cellsOk y && decide (y.cells.length = sz)) = true then evCopy L (ρ s) new sz else none
        | _, _ => none)
      | _ => none)
    | _, _, _, _ => none
  | _ => none

def evOp [Lit] (P : Program) (Sg : FuncId → Option (List AV → Option AV)) (ρ : Operand → AV) (L : List Blk) (op : Op) : Option (AV × List Blk) :=
  match op with
  | .call { callee := .value (.func f), args, argTypes := _ } => match Sg f with
    | some F => (F (args.toList.map fun x => exp 0 L (ρ x))).map fun r => (r, L)
    | none => none
  | op => match evP P ρ L op with
    | some v => some (v, L)
    | none => evE P ρ L op

end Go.Ev
namespace Go.Ev
open Go Go.RowKit
variable [Gl]

variable {P : Program}

theorem R.one {I J : Nat → Prop} {rf : Nat → Option E} {w : World} {x : AV} {v : Value} (h : R I J rf w x v) (hx : x.isCell = true) : v.oneCell' = true := by
  cases h <;> first | rfl | (simp [AV.isCell] at hx; done) | assumption

theorem cells_one {v : Value} (h : v.oneCell' = true) : v.cells = #[v] := by
  cases v <;> first | rfl | (simp [Value.oneCell'] at h; done)

theorem R.cells {I J : Nat → Prop} {rf : Nat → Option E} {w : World} {x : AV} {v : Value} (h : R I J rf w x v) (hx : x.isElem = true) :
    v.cells.size = x.cells.length ∧ ∀ j, j < x.cells.length → R I J rf w (x.cells.getD j .any) (v.cells.getD j undef) := by
  by_cases ha : ∃ l, x = .agg l
  · obtain ⟨l, rfl⟩ := ha
    cases h with
    | agg _ arr h1 h2 => exact ⟨h1, h2⟩
  · have hc : x.isCell = true := by cases x <;> simp_all [AV.isElem, AV.isCell]
    have hxc : x.cells = [x] := by cases x <;> simp_all [AV.cells]
    rw [cells_one (h.one hc), hxc]
    refine ⟨rfl, fun j hj => ?_⟩
    have : j = 0 := by simpa using hj
    subst this
    simpa using h

def Good (V : Vw) (L : List Blk) (w : World) (r : Result Next) (v : AV) (L' : List Blk) : Prop :=
  ∃ u V' w', (r = .ok (.value u) w' ∨ (r = .ok .skip w' ∧ u = undef)) ∧ Rel V' L' w' ∧ Step V w V' w' ∧ rfExt (rfOf V.m L) (rfOf V'.m L') ∧ R V'.I V'.J (rfOf V'.m L') w' v u

theorem tzero_some {t : TypeId} {z : AV} (h : tzero P t = some z) : ∃ i zv, P.info? t = some i ∧ i.zero = some zv ∧ z = ofV zv := by
  unfold tzero at h
  cases hi : P.info? t with
  | none => simp [hi] at h
  | some i =>
    cases hz : i.zero with
    | none => simp [hi, hz] at h
    | some zv => exact ⟨i, zv, rfl, hz, by simpa [hi, hz] using h.symm⟩

theorem ofV_cells {I J : Nat → Prop} {rf : Nat → Option E} {w : World} (v : Value) : (ofV v).cells.length = v.cells.size ∧
    ∀ j, j < (ofV v).cells.length → R I J rf w ((ofV v).cells.getD j .any) (v.cells.getD j undef) := by
  by_cases ha : ∃ cs, v = .agg cs
  · obtain ⟨cs, rfl⟩ := ha
    refine ⟨by simp [ofV, AV.cells, Value.cells], fun j hj => ?_⟩
    simp [ofV, AV.cells] at hj
    simp [ofV, AV.cells, Value.cells, hj]
    exact R.ofV1 _
  · have h1 : ofV v = ofV1 v := by cases v <;> simp_all [ofV]
    have h2 : v.cells = #[v] := by cases v <;> simp_all [Value.cells]
    rw [h1, ofV1_cells, h2]
    refine ⟨rfl, fun j hj => ?_⟩
    have : j = 0 := by simpa using hj
    subst this
    simpa using R.ofV1 v

theorem good_newVar {V : Vw} {L : List Blk} {w : World} (hr : Rel V L w) (x : AV) (v : Value) (t : TypeId) (h1 : v.cells.size = x.cells.length)
    (h2 : ∀ j, j < x.cells.length → R V.I V.J (rfOf V.m L) w (x.cells.getD j .any) (v.cells.getD j undef)) :
    Good V L w (.ok (.value (.pointer (some ⟨w.heap.size, 0, none⟩))) (w.alloc (.cells v.cells t))) (.ptr L.length 1 0 0) (L ++ [⟨x.cells.length, [x]⟩]) := by
  obtain ⟨hr', hs, hx⟩ := hr.alloc ⟨x.cells.length, [x]⟩ v.cells t (w' := w.alloc (.cells v.cells t)) rfl rfl rfl rfl (by simp [h1]) (fun i hi => by
    have : i = 0 := by simpa using hi
    subst this; simp) (fun i j hi hj => by
    have : i = 0 := by simpa using hi
    subst this
    simpa using h2 j hj) (fun h => by simp only at h; omega)
  refine ⟨_, _, _, .inl rfl, hr', hs, hx, ?_⟩
  have hb : (L ++ [⟨x.cells.length, [x]⟩])[L.length]? = some ⟨x.cells.length, [x]⟩ := by simp
  have hm : (V.m ++ [(w.heap.size, 0, v.cells.size)])[L.length]? = some (w.heap.size, 0, v.cells.size) := by simp [← hr.len]
  have := hr'.mkptr (i := 0) (off := 0) hb rfl hm (by simp)
  simpa using this

theorem good_alloc {V : Vw} {L : List Blk} {w : World} (hr : Rel V L w) {ev : Operand → Value} {o : Oper} {t : TypeId} {z : AV} (hop : o.op = .alloc t) (hz : tzero P t = some z) :
    Good V L w ((execOp ev o).run P w) (.ptr L.length 1 0 0) (L ++ [⟨z.cells.length, [z]⟩]) := by
  obtain ⟨i, zv, h1, h2, rfl⟩ := tzero_some hz
  have : (execOp ev o).run P w = .ok (.value (.pointer (some ⟨w.heap.size, 0, none⟩))) (w.alloc (.cells zv.cells t)) := by
    simp [execOp, hop, Instr.alloc, zeroValue, typeInfo, h1, h2, newVar, newRow]
  rw [this]
  have hc := ofV_cells (I := V.I) (J := V.J) (rf := rfOf V.m L) (w := w) zv
  exact good_newVar hr _ _ _ hc.1.symm hc.2

theorem good_box {V : Vw} {L : List Blk} {w : World} (hr : Rel V L w) {ev : Operand → Value} {o : Oper} {t : TypeId} {x : Operand} {y : AV} (hop : o.op = .box t x)
    (hy : R V.I V.J (rfOf V.m L) w y (ev x)) (he : y.isElem = true) :
    Good V L w ((execOp ev o).run P w) (.ptr L.length 1 0 0) (L ++ [⟨y.cells.length, [y]⟩]) := by
  have : (execOp ev o).run P w = .ok (.value (.pointer (some ⟨w.heap.size, 0, none⟩))) (w.alloc (.cells (ev x).cells t)) := by
    simp [execOp, hop, Instr.box, newVar, newRow]
  rw [this]
  exact good_newVar hr _ _ _ (hy.cells he).1 (hy.cells he).2

theorem good_makeSlice {V : Vw} {L : List Blk} {w : World} (hr : Rel V L w) {ev : Operand → Value} {o : Oper} {t e : TypeId} {l c : Operand} {k k' : IntKind} {n n' : Int} {z : AV} {sz by' : Nat}
    (hop : o.op = .makeSlice t l c) (ht : P.underlying t = some (.slice e)) (hz : tzero P e = some z) (hs : tsize P e = some sz) (hb : tbytes P e = some by')
    (hl : ev l = .int k n) (hc : ev c = .int k' n') (h0 : 0 ≤ n) (h1 : n ≤ n') (h2 : n' ≤ 9223372036854775807) (h3 : by' * n' ≤ 281474976710656) (h4 : z.cells.length = sz) (h5 : 0 < sz) :
    Good V L w ((execOp ev o).run P w) (.sl L.length n'.toNat 0 n.toNat n'.toNat) (L ++ [⟨sz, List.replicate n'.toNat z⟩]) := by
  obtain ⟨i, zv, hi, hzv, rfl⟩ := tzero_some hz
  have hc0 := ofV_cells (I := V.I) (J := V.J) (rf := rfOf V.m L) (w := w) zv
  have hsz : i.size = sz := by simpa [tsize, hi] using hs
  have hby : i.bytes = by' := by simpa [tbytes, hi] using hb
  subst hby
  have hzs : zv.cells.size = sz := by rw [← hc0.1]; exact h4
  let cells : Array Value := (Array.range (n'.toNat * sz)).map (fun x => zv.cells[x % zv.cells.size]!)
  have hrun : (execOp ev o).run P w = .ok (.value (.slice (some ⟨w.heap.size, 0, none⟩) n.toNat n'.toNat)) (w.alloc (.cells cells e)) := by
    have e1 : IntKind.i64.wrap n = n := IntWalk.i64_in n (by omega)
    have e2 : IntKind.i64.wrap n' = n' := IntWalk.i64_in n' (by omega)
    by_cases hn0 : n' = 0
    · have : n = 0 := by omega
      subst hn0; subst this
      simp [execOp, hop, Instr.makeSlice, run_underlying ht, hl, hc, asInt, asIntOf, typeInfo, hi, e1, newRow, sizeOf, cells]
      rw [show Array.range 0 = #[] from rfl]; simp
    · have g1 : ¬ (n' < 0) := by omega
      have g2 : ¬ (281474976710656 < (i.bytes : Int) * n') := by omega
      have g3 : ¬ (n < 0) := by omega
      have g4 : ¬ (n > n') := by omega
      have g5 : ¬ (n'.toNat * sz = 0) := by
        intro h
        rcases Nat.mul_eq_zero.1 h with h | h <;> omega
      simp [execOp, hop, Instr.makeSlice, run_underlying ht, hl, hc, asInt, asIntOf, typeInfo, hi, e1, e2, newRow, sizeOf, hsz, cells, zeroValue, hzv, g1, g2, g3, g4, g5]
  rw [hrun]
  have hcs : cells.size = n'.toNat * sz := by simp [cells]
  obtain ⟨hr', hst, hx⟩ := hr.alloc ⟨sz, List.replicate n'.toNat (ofV zv)⟩ cells e (w' := w.alloc (.cells cells e)) rfl rfl rfl rfl (by simp [hcs]) (fun i hi => by
    simp at hi; simp [hi, h4]) (fun i j hi hj => by
    simp only [List.length_replicate] at hi
    have hj' : j < sz := hj
    have hlt : i * sz + j < n'.toNat * sz := by
      have := Nat.mul_le_mul_right sz hi
      rw [Nat.succ_mul] at this
      omega
    have ec : cells.getD (i * sz + j) undef = zv.cells.getD j undef := by
      have hjz : j < zv.cells.size := by omega
      have e3 : (Array.range (n'.toNat * sz))[i * sz + j]? = some (i * sz + j) := by
        rw [Array.getElem?_eq_getElem (by simpa using hlt)]; simp
      simp only [cells, Array.getD_eq_getD_getElem?, Array.getElem?_map, e3, hzs, Option.map_some, Option.getD_some]
      rw [Nat.mul_comm i sz, Nat.mul_add_mod, Nat.mod_eq_of_lt hj']
      simp [hjz]
    simp only
    rw [ec]
    have e0 : (List.replicate n'.toNat (ofV zv)).getD i .any = ofV zv := by simp [hi]
    rw [e0]
    exact hc0.2 j (by omega)) (fun h => by simp only at h; subst h; rw [hcs]; omega)
  refine ⟨_, _, _, .inl rfl, hr', hst, hx, ?_⟩
  obtain ⟨x, hx1, hx2⟩ := hr'.entry (b := L.length) (k := ⟨sz, List.replicate n'.toNat (ofV zv)⟩) (by simp)
  have hm : x = (w.heap.size, 0, cells.size) := by
    have : (V.m ++ [(w.heap.size, 0, cells.size)])[L.length]? = some (w.heap.size, 0, cells.size) := by simp [← hr.len]
    rw [this] at hx1; exact (Option.some.inj hx1).symm
  subst hm
  refine .sl _ _ _ _ _ _ _ rfl hx2 (by simp) fun _ => ⟨_, _, rfl, by omega, Nat.le_refl _, fun _ => by simp, by simp [hcs], by omega⟩

end Go.Ev
namespace Go.Ev
open Go Go.RowKit
variable [Gl]

variable {P : Program}

theorem seg_getD {α : Type} (l vs : List α) (o p : Nat) (d : α) (h : o + vs.length ≤ l.length) :
    (l.take o ++ vs ++ l.drop (o + vs.length)).getD p d = if o ≤ p ∧ p < o + vs.length then vs.getD (p - o) d else l.getD p d := by
  simp only [List.getD_eq_getElem?_getD, List.append_assoc, List.getElem?_append, List.length_take, List.getElem?_take, List.getElem?_drop]
  have e : min o l.length = o := by omega
  rw [e]
  by_cases h1 : p < o
  · simp [h1, show ¬ (o ≤ p) by omega]
  · by_cases h2 : p < o + vs.length
    · simp [h1, show o ≤ p by omega, h2, show p - o < vs.length by omega]
    · simp [h1, h2, show ¬ (p - o < vs.length) by omega]
      congr 2; omega

theorem seg_length {α : Type} (l vs : List α) (o : Nat) (h : o + vs.length ≤ l.length) : (l.take o ++ vs ++ l.drop (o + vs.length)).length = l.length := by
  simp; omega

theorem splice_cells {e : AV} {off esz : Nat} {cs : List AV} (he : e.cells.length = esz) (hf : off + cs.length ≤ esz) (h0 : 0 < cs.length) (hc : cs.all AV.isCell = true) :
    (splice e off cs).cells.length = esz ∧ ∀ j, (splice e off cs).cells.getD j .any = if off ≤ j ∧ j < off + cs.length then cs.getD (j - off) .any else e.cells.getD j .any := by
  by_cases ha : ∃ l, e = .agg l
  · obtain ⟨l, rfl⟩ := ha
    have he' : l.length = esz := he
    refine ⟨?_, fun j => ?_⟩
    · show (l.take off ++ cs ++ l.drop (off + cs.length)).length = esz
      rw [seg_length _ _ _ (by omega)]; exact he'
    · exact seg_getD l cs off j .any (by omega)
  · have h1 : e.cells = [e] := by cases e <;> simp_all [AV.cells]
    have h2 : splice e off cs = cs.getD 0 .any := by cases e <;> simp_all [splice]
    rw [h1] at he
    simp at he; subst he
    have h3 : off = 0 := by omega
    have h4 : cs.length = 1 := by omega
    subst h3
    obtain ⟨c, rfl⟩ := List.length_eq_one_iff.1 h4
    have h5 : c.isCell = true := by simpa using hc
    have h6 : c.cells = [c] := by cases c <;> simp_all [AV.cells, AV.isCell]
    rw [h2, h1]
    simp only [List.getD_cons_zero, h6]
    refine ⟨rfl, fun j => ?_⟩
    by_cases hj : j = 0
    · subst hj; simp
    · simp [hj]

theorem toArray_getD (l : List Value) (i : Nat) : l.toArray.getD i undef = l.getD i undef := by
  simp

theorem oneCells {I J : Nat → Prop} {rf : Nat → Option E} {w : World} {x : AV} {v : Value} (h : R I J rf w x v) (hx : cellsOk x = true) : ∀ u ∈ v.cells.toList, u.oneCell' = true := by
  unfold cellsOk at hx
  simp only [Bool.and_eq_true, List.all_eq_true] at hx
  obtain ⟨h1, h2⟩ := h.cells hx.1
  intro u hu
  obtain ⟨i, hi, rfl⟩ := List.mem_iff_getElem.1 hu
  simp at hi
  have := h2 i (by omega)
  simp [hi, show i < x.cells.length by omega] at this
  rw [Array.getElem_toList]
  exact this.one (hx.2 _ (List.getElem_mem _))

theorem good_store {V : Vw} {L : List Blk} {w : World} (hr : Rel V L w) {ev : Operand → Value} {o : Oper} {t : TypeId} {a x : Operand} {b ver i off n : Nat} {y : AV} {k : Blk}
    (hop : o.op = .store t a x) (hn : tsize P t = some n) (ha : R V.I V.J (rfOf V.m L) w (.ptr b ver i off) (ev a)) (hy : R V.I V.J (rfOf V.m L) w y (ev x))
    (hk : L[b]? = some k) (hv : k.l.length = ver) (hi : i < ver) (hyn : y.cells.length = n) (hok : cellsOk y = true) (hfit : off + n ≤ (k.l.getD i .any).cells.length) (h0 : 0 < n) :
    Good V L w ((execOp ev o).run P w) .any (L.set b ⟨k.esz, k.l.set i (splice (k.l.getD i .any) off y.cells)⟩) := by
  obtain ⟨xm, hx, _⟩ := hr.entry hk
  obtain ⟨hea, _⟩ := ha.ptr_inv hk hx hv
  obtain ⟨c, ty, c1, c2, c3, c4, c5⟩ := hr.blk b k xm hk hx
  have hok' := hok
  unfold cellsOk at hok'
  simp only [Bool.and_eq_true] at hok'
  obtain ⟨y1, y2⟩ := hy.cells hok'.1
  have hesz := c4 i (by omega)
  rw [hesz] at hfit
  have hrow : (i + 1) * k.esz ≤ k.l.length * k.esz := Nat.mul_le_mul_right _ (by omega)
  rw [Nat.add_mul] at hrow
  have hst := run_storeCells_at P xm.1 (xm.2.1 + i * k.esz + off) ty (ev x).cells.toList 0 c w c1 (by simp; omega) (oneCells hy hok)
  simp only [Nat.add_zero] at hst
  have hlen : (ev x).cells.toList.length = n := by simp; omega
  have hrun : (execOp ev o).run P w = .ok .skip (w.setRow xm.1 (c.toList.take (xm.2.1 + i * k.esz + off) ++ (ev x).cells.toList ++ c.toList.drop (xm.2.1 + i * k.esz + off + (ev x).cells.toList.length)).toArray) := by
    simp only [execOp, hop, Instr.storeAt, hea, Instr.sureAddr, Sem.run_bind, Sem.run_pure, Result.andThen_ok, storeVar, run_sizeOf hn]
    rw [if_neg (by omega)]
    rw [hst]
    rfl
  rw [hrun]
  have hs := splice_cells hesz (cs := y.cells) (off := off) (by omega) (by omega) hok'.2
  obtain ⟨g1, g2, g3⟩ := hr.upd hk hx (k' := ⟨k.esz, k.l.set i (splice (k.l.getD i .any) off y.cells)⟩) (x' := xm)
    (w' := w.setRow xm.1 (c.toList.take (xm.2.1 + i * k.esz + off) ++ (ev x).cells.toList ++ c.toList.drop (xm.2.1 + i * k.esz + off + (ev x).cells.toList.length)).toArray)
    (fun y _ hy => setRow_other w _ _ _ hy) (by simp) rfl rfl rfl (.inl rfl) (.inr ⟨by simp, rfl, rfl⟩) _ ty (setRow_heap w _ _ _ _ _ c1)
    (by rw [List.size_toArray, seg_length _ _ _ (by simp; omega)]; simpa using c2) (by simpa using c3)
    (fun i' hi' => by
      simp only [List.length_set] at hi'
      by_cases hii : i = i'
      · subst hii; simp only [List.getD_eq_getElem?_getD, List.getElem?_set_self hi', Option.getD_some]; exact hs.1
      · simp only [List.getD_eq_getElem?_getD, List.getElem?_set_ne hii]; simpa using c4 i' hi')
    (fun i' j hi' hj => by
      simp only [List.length_set] at hi'
      simp only at hj
      rw [toArray_getD, seg_getD _ _ _ _ _ (by simp; omega), hlen]
      by_cases hii : i = i'
      · subst hii
        simp only [List.getD_eq_getElem?_getD, List.getElem?_set_self hi', Option.getD_some]
        have := hs.2 j
        simp only [List.getD_eq_getElem?_getD] at this
        rw [this, hyn]
        by_cases hjj : off ≤ j ∧ j < off + n
        · rw [if_pos hjj, if_pos (by omega)]
          have := y2 (j - off) (by omega)
          rw [show xm.2.1 + i * k.esz + j - (xm.2.1 + i * k.esz + off) = j - off by omega]
          simpa using this
        · rw [if_neg hjj, if_neg (by omega)]
          simpa using c5 i j hi' hj
      · simp only [List.getD_eq_getElem?_getD, List.getElem?_set_ne hii]
        rw [if_neg ?_]
        · simpa using c5 i' j hi' hj
        · intro hc
          rcases Nat.lt_or_gt_of_ne hii with h | h
          · have := Nat.mul_le_mul_right k.esz (show i + 1 ≤ i' by omega)
            rw [Nat.add_mul] at this; omega
          · have := Nat.mul_le_mul_right k.esz (show i' + 1 ≤ i by omega)
            rw [Nat.add_mul] at this; omega)
    (fun h => hr.big b k xm hk hx h)
  exact ⟨_, _, _, .inr ⟨rfl, rfl⟩, g1, g2, g3, .any _⟩

end Go.Ev
namespace Go.Ev
open Go Go.RowKit
variable [Gl]

variable {P : Program}

theorem cell_congr {w w' : World} (h : w'.heap = w.heap) (a : Addr) : w'.cell? a = w.cell? a := by simp [World.cell?, h]

theorem run_first {w w' : World} (h : w'.heap = w.heap) {a : Option Addr} {sz n cap : Nat} {us : List Value} (hl : us.length = n * sz)
    (hc : us ≠ [] → ∃ b o, a = some ⟨b, o, none⟩ ∧ ∀ j, j < us.length → w.cell? ⟨b, o + j, none⟩ = some (us.getD j undef)) (len : Nat) :
    (Builtin.firstCells sz n (.slice a len cap)).run P w' = .ok us.toArray w' := by
  by_cases he : us = []
  · subst he
    simp at hl
    cases a with
    | none => simp [Builtin.firstCells]
    | some ad => simp [Builtin.firstCells, ← hl, loadCells, loadCellsFrom]
  · obtain ⟨b, o, rfl, h1⟩ := hc he
    refine run_firstCells_some w' sz n ⟨b, o, none⟩ len cap us hl fun j v hj => ?_
    have hlt := (List.getElem?_eq_some_iff.1 hj).1
    rw [addr_add, cell_congr h, h1 j hlt]
    simp [List.getD_eq_getElem?_getD, hj]

structure SrcAt (V : Vw) (L : List Blk) (w : World) (new : List AV) (sz : Nat) (a : Option Addr) (us : List Value) : Prop where
  len : us.length = new.length * sz
  rel : ∀ i j, i < new.length → j < sz → R V.I V.J (rfOf V.m L) w ((new.getD i .any).cells.getD j .any) (us.getD (i * sz + j) undef)
  cell : us ≠ [] → ∃ b o, a = some ⟨b, o, none⟩ ∧ ∀ j, j < us.length → w.cell? ⟨b, o + j, none⟩ = some (us.getD j undef)

theorem list_of_fn {n : Nat} (f : Nat → Value) : ∃ us : List Value, us.length = n ∧ ∀ j, j < n → us.getD j undef = f j :=
  ⟨(List.range n).map f, by simp, fun j hj => by simp [hj]⟩

theorem src_cells {V : Vw} {L : List Blk} {w : World} (hr : Rel V L w) {x : AV} {v : Value} {new : List AV} {sz : Nat} (h : R V.I V.J (rfOf V.m L) w x v) (he : elems L x = some new)
    (hz : ∀ i, i < new.length → (new.getD i .any).cells.length = sz) (h0 : 0 < sz) : ∃ a c us, v = .slice a new.length c ∧ SrcAt V L w new sz a us := by
  unfold elems at he
  split at he
  · simp at he; subst he
    cases h with
    | nilS a => exact ⟨a, 0, [], rfl, by simp, by simp, by simp⟩
  · rename_i tag l
    simp at he; subst he
    cases h with
    | ds0 _ a cap _ => exact ⟨a, cap, [], rfl, by simp, by simp, by simp⟩
    | ds _ _ b o cap esz vs a1 a2 a3 a4 a5 a6 a7 a8 =>
      have hpos : 0 < l.length := List.length_pos_iff.2 a3
      have hes : esz = sz := by rw [← a4 0 hpos, hz 0 hpos]
      subst hes
      obtain ⟨us, hu1, hu2⟩ := list_of_fn (n := l.length * esz) vs
      refine ⟨_, cap, us, rfl, hu1, fun i j hi hj => ?_, fun _ => ⟨b, o, rfl, fun j hj => ?_⟩⟩
      · have : (i + 1) * esz ≤ l.length * esz := Nat.mul_le_mul_right _ hi
        rw [Nat.add_mul] at this
        rw [hu2 _ (by omega)]; exact a6 i j hi hj
      · rw [hu2 _ (by omega)]; exact a5 j (by omega)
  · rename_i b ver off len cap
    split at he
    · rename_i k hk
      split at he
      · rename_i hv
        simp at he; subst he
        obtain ⟨x, hx, _⟩ := hr.entry hk
        obtain ⟨a, cap', rfl, c1, c2, c3, c4, c5⟩ := h.sl_inv hk hx hv
        have hnl : ((k.l.drop off).take len).length = len := by simp; omega
        have hg : ∀ i, i < len → ((k.l.drop off).take len).getD i .any = k.l.getD (off + i) .any := fun i hi => by
          simp only [List.getD_eq_getElem?_getD, List.getElem?_take, hi, if_true, List.getElem?_drop]
        rw [hnl]
        obtain ⟨cc, ty, d1, d2, d3, d4, d5⟩ := hr.blk b k x hk hx
        by_cases hl0 : len = 0
        · subst hl0
          exact ⟨a, cap', [], rfl, by simp, by simp, by simp⟩
        · have hes : k.esz = sz := by rw [← d4 (off + 0) (by omega), ← hg 0 (by omega)]; exact hz 0 (by omega)
          subst hes
          obtain ⟨us, hu1, hu2⟩ := list_of_fn (n := len * k.esz) (fun j => cc.getD (x.2.1 + off * k.esz + j) undef)
          have hmul : (off + len) * k.esz ≤ k.l.length * k.esz := Nat.mul_le_mul_right _ (by omega)
          rw [Nat.add_mul] at hmul
          refine ⟨a, cap', us, rfl, by rw [hu1, hnl], fun i j hi hj => ?_, fun _ => ⟨x.1, x.2.1 + off * k.esz, c3 (by omega), fun j hj => ?_⟩⟩
          · rw [hnl] at hi
            have : (i + 1) * k.esz ≤ len * k.esz := Nat.mul_le_mul_right _ hi
            rw [Nat.add_mul] at this
            rw [hu2 _ (by omega), hg i hi]
            have := d5 (off + i) j (by omega) hj
            rw [Nat.add_mul] at this
            rw [show x.2.1 + off * k.esz + (i * k.esz + j) = x.2.1 + (off * k.esz + i * k.esz) + j by omega]
            exact this
          · rw [hu2 _ (by omega), Nat.add_assoc]
            have := cell_of_block d1 (o := x.2.1 + off * k.esz + j) (by omega)
            rw [Nat.add_assoc] at this; exact this
      · simp at he
    · simp at he
  · simp at he

theorem run_append_grows {w : World} {t u e e' : TypeId} {i : TypeInfo} {z : Value} {ts : Array TypeId} {ty : TypeId} (ht : P.underlying t = some (.slice e)) (hu : P.underlying u = some (.slice e'))
    (h0 : ts[0]? = some t) (h1 : ts[1]? = some u) (hi : P.info? e = some i) (hz : i.zero = some z)
    {base a : Option Addr} {sLen sCap n c : Nat} {olds news : List Value}
    (ho : ∀ w', w'.heap = w.heap → (Builtin.firstCells i.size sLen (.slice base sLen sCap)).run P w' = .ok olds.toArray w')
    (hn : ∀ w', w'.heap = w.heap → (Builtin.firstCells i.size n (.slice a n c)).run P w' = .ok news.toArray w')
    (hg : sCap < sLen + n) (h63 : sLen + n ≤ 9223372036854775807) (hb : (sLen + n) * i.bytes ≤ 140737488355328) :
    (Builtin.append_ ts ty #[.slice base sLen sCap, .slice a n c]).run P w =
      .ok (.slice (some ⟨w.heap.size, 0, none⟩) (sLen + n) (grownCap w (sLen + n) sCap e))
        (w.drew.alloc (.cells (olds.toArray ++ news.toArray ++ Builtin.zeroCells z.cells (grownCap w (sLen + n) sCap e - (sLen + n))) e)) := by
  have hn' : ¬ (sLen + n ≤ sCap) := by omega
  have h63' : ¬ (9223372036854775807 < ((sLen : Int) + (n : Int))) := by omega
  have hfit := growslice_fits hg hb
  have h48' : ¬ (281474976710656 < Builtin.nextslicecap (sLen + n) sCap * i.bytes) := by omega
  have ho' := ho w.drew rfl
  have hn'' := hn w.drew rfl
  simp [Builtin.append_, run_underlying ht, run_underlying hu, sizeOf, typeInfo, zeroValue, hi, hz, Builtin.lenOf, hn', h63', h48', Question.forced, ho', hn'', newRow, grownCap, h0, h1]
  congr 2
  apply Array.ext'
  simp

theorem run_append_in {w : World} {t u e e' : TypeId} {i : TypeInfo} {ts : Array TypeId} {ty : TypeId} (ht : P.underlying t = some (.slice e)) (hu : P.underlying u = some (.slice e'))
    (h0 : ts[0]? = some t) (h1 : ts[1]? = some u) (hi : P.info? e = some i)
    {base a : Option Addr} {sLen sCap n c : Nat} {news : List Value}
    (hn : (Builtin.firstCells i.size n (.slice a n c)).run P w = .ok news.toArray w)
    (hg : sLen + n ≤ sCap) :
    (Builtin.append_ ts ty #[.slice base sLen sCap, .slice a n c]).run P w =
      (match base with | some b => (storeCells (b.add (sLen * i.size)) news).run P w | none => .ok () w).andThen fun _ w' => .ok (.slice base (sLen + n) sCap) w' := by
  cases base <;>
  simp [Builtin.append_, run_underlying ht, run_underlying hu, sizeOf, typeInfo, hi, Builtin.lenOf, hg, hn, h0, h1]

end Go.Ev
namespace Go.Ev
open Go Go.RowKit
variable [Gl]

variable {P : Program}

theorem SrcAt.one {V : Vw} {L : List Blk} {w : World} {new : List AV} {sz : Nat} {a : Option Addr} {us : List Value} (h : SrcAt V L w new sz a us) (h0 : 0 < sz)
    (hok : new.all (fun y => cellsOk y && decide (y.cells.length = sz)) = true) : ∀ u ∈ us, u.oneCell' = true := by
  intro u hu
  obtain ⟨p, hp, rfl⟩ := List.mem_iff_getElem.1 hu
  have hp' := hp
  rw [h.len] at hp'
  have hi : p / sz < new.length := by
    rw [Nat.div_lt_iff_lt_mul h0]; exact hp'
  have hj : p % sz < sz := Nat.mod_lt _ h0
  have hr := h.rel _ _ hi hj
  have e : p / sz * sz + p % sz = p := Nat.div_add_mod' p sz
  rw [e] at hr
  have hm : new.getD (p / sz) .any ∈ new := by simp [hi]
  have h2 := List.all_eq_true.1 hok _ hm
  simp only [Bool.and_eq_true, decide_eq_true_eq, cellsOk] at h2
  have h3 := List.all_eq_true.1 h2.1.2
  simp only [List.getD_eq_getElem?_getD, List.getElem?_eq_getElem hp, Option.getD_some] at hr
  refine hr.one ?_
  have hlt : p % sz < (new[p / sz]?.getD .any).cells.length := by
    have := h2.2
    simp only [List.getD_eq_getElem?_getD] at this
    omega
  refine h3 _ ?_
  simp only [List.getD_eq_getElem?_getD]
  rw [List.getElem?_eq_getElem hlt]
  exact List.getElem_mem _

theorem all_sz {new : List AV} {sz : Nat} (hok : new.all (fun y => cellsOk y && decide (y.cells.length = sz)) = true) : ∀ i, i < new.length → (new.getD i .any).cells.length = sz := by
  intro i hi
  have hm : new.getD i .any ∈ new := by simp [hi]
  have h2 := List.all_eq_true.1 hok _ hm
  simp only [Bool.and_eq_true, decide_eq_true_eq] at h2
  exact h2.2

theorem good_inplace {V : Vw} {L : List Blk} {w : World} (hr : Rel V L w) {b off len m cap2 cap' : Nat} {k k' : Blk} {x : Nat × Nat × Nat} {news : List Value} {new : List AV} {a : Option Addr} {r : Result Next}
    (hk : L[b]? = some k) (hx : V.m[b]? = some x) (hs : SrcAt V L w new k.esz a news) (hone : ∀ u ∈ news, u.oneCell' = true)
    (hes : k'.esz = k.esz) (hm : new.length = m) (hnl : ∀ i, i < new.length → (new.getD i .any).cells.length = k.esz)
    (hlen : k.l.length < k'.l.length ∨ k'.l.length = k.l.length)
    (hel : ∀ i, i < k'.l.length → ((off + len ≤ i ∧ i < off + len + m) ∧ k'.l.getD i .any = new.getD (i - (off + len)) .any) ∨ (¬ (off + len ≤ i ∧ i < off + len + m) ∧ i < k.l.length ∧ k'.l.getD i .any = k.l.getD i .any))
    (hcap : len + m ≤ cap2) (hcap2 : cap2 ≤ cap') (hoff : off + cap2 ≤ k'.l.length) (hkl : k'.l.length ≤ off + cap' ∨ k'.l.length = k.l.length)
    (hfit : x.2.1 + (off + cap') * k.esz ≤ x.2.2)
    (hrun : ∀ w', (storeCells ((⟨x.1, x.2.1 + off * k.esz, none⟩ : Addr).add (len * k.esz)) news).run P w = .ok () w' → r = .ok (.value (.slice (some ⟨x.1, x.2.1 + off * k.esz, none⟩) (len + m) cap')) w') :
    Good V L w r (.sl b k'.l.length off (len + m) cap2) (L.set b k') := by
  obtain ⟨c, ty, c1, c2, c3, c4, c5⟩ := hr.blk b k x hk hx
  have hnews : news.length = m * k.esz := by rw [hs.len, hm]
  have hq : (off + len + m) * k.esz ≤ (off + cap') * k.esz := Nat.mul_le_mul_right _ (by omega)
  have e1 : (off + len + m) * k.esz = off * k.esz + len * k.esz + m * k.esz := by rw [Nat.add_mul, Nat.add_mul]
  have hst := run_storeCells_at P x.1 (x.2.1 + off * k.esz + len * k.esz) ty news 0 c w c1 (by rw [hnews]; omega) hone
  simp only [Nat.add_zero] at hst
  have hr' := hrun _ (by rw [addr_add]; exact hst)
  rw [hr']
  obtain ⟨g1, g2, g3⟩ := hr.upd hk hx (k' := k') (x' := x)
    (w' := w.setRow x.1 (c.toList.take (x.2.1 + off * k.esz + len * k.esz) ++ news ++ c.toList.drop (x.2.1 + off * k.esz + len * k.esz + news.length)).toArray)
    (fun y _ hy => setRow_other w _ _ _ hy) (by simp) rfl rfl rfl (.inl rfl) (hlen.imp id fun h => ⟨h, hes, rfl⟩) _ ty (setRow_heap w _ _ _ _ _ c1)
    (by rw [List.size_toArray, seg_length _ _ _ (by simp; omega)]; simpa using c2)
    (by
      rw [hes]
      rcases hkl with h | h
      · have := Nat.mul_le_mul_right k.esz h; omega
      · rw [h]; exact c3)
    (fun i hi => by
      rw [hes]
      rcases hel i hi with ⟨h1, h2⟩ | ⟨h1, h2, h3⟩
      · rw [h2]; exact hnl _ (by omega)
      · rw [h3]; exact c4 i h2)
    (fun i j hi hj => by
      rw [hes] at hj ⊢
      rw [toArray_getD, seg_getD _ _ _ _ _ (by simp; omega), hnews]
      rcases hel i hi with ⟨h1, h2⟩ | ⟨h1, h2, h3⟩
      · rw [h2]
        have ei : i = off + len + (i - (off + len)) := by omega
        have em : i * k.esz = off * k.esz + len * k.esz + (i - (off + len)) * k.esz := by rw [← Nat.add_mul, ← Nat.add_mul, ← ei]
        have hlt : (i - (off + len) + 1) * k.esz ≤ m * k.esz := Nat.mul_le_mul_right _ (by omega)
        rw [Nat.add_mul] at hlt
        rw [if_pos (by omega)]
        have := hs.rel (i - (off + len)) j (by omega) hj
        rw [show x.2.1 + i * k.esz + j - (x.2.1 + off * k.esz + len * k.esz) = (i - (off + len)) * k.esz + j by omega]
        exact this
      · rw [h3, if_neg ?_]
        · simpa using c5 i j h2 hj
        · intro hc
          by_cases hlo : i < off + len
          · have := Nat.mul_le_mul_right k.esz (show i + 1 ≤ off + len by omega)
            rw [Nat.add_mul, Nat.add_mul] at this; omega
          · have := Nat.mul_le_mul_right k.esz (show off + len + m ≤ i by omega)
            omega)
    (fun h => hr.big b k x hk hx (by rw [← hes]; exact h))
  refine ⟨_, _, _, .inl rfl, g1, g2, g3, ?_⟩
  have hbL : b < L.length := (List.getElem?_eq_some_iff.1 hk).1
  have hbm : b < V.m.length := by rw [hr.len]; exact hbL
  obtain ⟨x2, y1, y2⟩ := g1.entry (b := b) (k := k') (by simp [hbL])
  simp only [List.getElem?_set_self hbm, Option.some.injEq] at y1
  subst y1
  refine .sl _ _ _ _ _ _ _ rfl y2 (by simp) fun _ => ⟨_, _, rfl, hcap, hcap2, fun _ => by simp [hes], by simpa [hes] using hfit, hoff⟩

theorem good_newrow {V : Vw} {L : List Blk} {w w' : World} (hr : Rel V L w) {all : List AV} {cells : Array Value} {e : TypeId} {sz cap' : Nat} (hh : w'.heap = w.heap.push (.cells cells e (0, 0)))
    (ho : w'.os = w.os) (ht : w'.tape = w.tape) (hu : w'.output = w.output)
    (hnl : ∀ i, i < all.length → (all.getD i .any).cells.length = sz) (hcap : all.length ≤ cap') (hcs : cells.size = cap' * sz)
    (hR : ∀ i j, i < all.length → j < sz → R V.I V.J (rfOf V.m L) w ((all.getD i .any).cells.getD j .any) (cells.getD (i * sz + j) undef)) (hbg : cap' ≤ 9223372036854775807) :
    Good V L w (.ok (.value (.slice (some ⟨w.heap.size, 0, none⟩) all.length cap')) w') (.sl L.length all.length 0 all.length all.length) (L ++ [⟨sz, all⟩]) := by
  have hmul : all.length * sz ≤ cap' * sz := Nat.mul_le_mul_right _ hcap
  obtain ⟨hr', hst, hx⟩ := hr.alloc ⟨sz, all⟩ cells e (w' := w') hh ho ht hu (by simp only; omega) hnl hR (fun h => by simp only at h; subst h; rw [hcs]; omega)
  refine ⟨_, _, _, .inl rfl, hr', hst, hx, ?_⟩
  obtain ⟨x, hx1, hx2⟩ := hr'.entry (b := L.length) (k := ⟨sz, all⟩) (by simp)
  have hm : x = (w.heap.size, 0, cells.size) := by
    have : (V.m ++ [(w.heap.size, 0, cells.size)])[L.length]? = some (w.heap.size, 0, cells.size) := by simp [← hr.len]
    rw [this] at hx1; exact (Option.some.inj hx1).symm
  subst hm
  exact .sl _ _ _ _ _ _ _ rfl hx2 (by simp) fun _ => ⟨_, _, rfl, by omega, hcap, fun _ => by simp, by simp [hcs], by omega⟩

theorem good_moved {V : Vw} {L : List Blk} {w w' : World} (hr : Rel V L w) {b : Nat} {k : Blk} {all : List AV} {cells : Array Value} {e : TypeId} {cap' : Nat} (hk : L[b]? = some k)
    (hh : w'.heap = w.heap.push (.cells cells e (0, 0)))
    (ho : w'.os = w.os) (ht : w'.tape = w.tape) (hu : w'.output = w.output) (hlt : k.l.length < all.length)
    (hnl : ∀ i, i < all.length → (all.getD i .any).cells.length = k.esz) (hcap : all.length ≤ cap') (hcs : cells.size = cap' * k.esz)
    (hR : ∀ i j, i < all.length → j < k.esz → R V.I V.J (rfOf V.m L) w ((all.getD i .any).cells.getD j .any) (cells.getD (i * k.esz + j) undef)) (hbg : cap' ≤ 9223372036854775807) :
    Good V L w (.ok (.value (.slice (some ⟨w.heap.size, 0, none⟩) all.length cap')) w') (.sl b all.length 0 all.length all.length) (L.set b ⟨k.esz, all⟩) := by
  have hmul : all.length * k.esz ≤ cap' * k.esz := Nat.mul_le_mul_right _ hcap
  obtain ⟨x, hx, _⟩ := hr.entry hk
  obtain ⟨g1, g2, g3⟩ := hr.upd hk hx (k' := ⟨k.esz, all⟩) (x' := (w.heap.size, 0, cells.size)) (w' := w')
    (fun y hy _ => by rw [hh, Array.getElem?_push, if_neg (by omega)]) (by simp [hh]) ho ht hu (.inr rfl) (.inl hlt) cells e (by simp [hh]) rfl (by simp only; omega) hnl
    (fun i j hi hj => by rw [Nat.zero_add]; exact hR i j hi hj) (fun h => by simp only at h ⊢; rw [hcs, h]; omega)
  refine ⟨_, _, _, .inl rfl, g1, g2, g3, ?_⟩
  have hbL : b < L.length := (List.getElem?_eq_some_iff.1 hk).1
  have hbm : b < V.m.length := by rw [hr.len]; exact hbL
  obtain ⟨x2, y1, y2⟩ := g1.entry (b := b) (k := ⟨k.esz, all⟩) (by simp [hbL])
  simp only [List.getElem?_set_self hbm, Option.some.injEq] at y1
  subst y1
  exact .sl _ _ _ _ _ _ _ rfl y2 (by simp) fun _ => ⟨_, _, rfl, by omega, hcap, fun _ => by simp, by simp [hcs], by omega⟩

end Go.Ev
namespace Go.Ev
open Go Go.RowKit
variable [Gl]

variable {P : Program}

theorem exec_append {ev : Operand → Value} {o : Oper} {args : Array Operand} {ts : Array TypeId} {s x : Operand} (hop : o.op = .call { callee := .builtin .append, args, argTypes := ts })
    (h0 : args[0]? = some s) (h1 : args[1]? = some x) (w : World) :
    (execOp ev o).run P w = ((Builtin.append_ ts o.type #[ev s, ev x]).run P w).andThen fun v w' => .ok (Next.value v) w' := by
  have e : ∀ (q : Array Value), q[0]? = some (ev s) → q[1]? = some (ev x) → (Builtin.append_ ts o.type q).run P w = (Builtin.append_ ts o.type #[ev s, ev x]).run P w := by
    intro q hq0 hq1
    unfold Builtin.append_
    simp only [hq0, hq1]
    rfl
  have e' := e (args.map ev) (by simp [h0]) (by simp [h1])
  simp only [execOp, hop, resolve, invoke, builtin, Sem.run_bind, Sem.run_pure, Result.andThen_ok]
  rw [e']

theorem exec_copy {ev : Operand → Value} {o : Oper} {args : Array Operand} {ts : Array TypeId} {s x : Operand} (hop : o.op = .call { callee := .builtin .copy, args, argTypes := ts })
    (h0 : args[0]? = some s) (h1 : args[1]? = some x) (w : World) :
    (execOp ev o).run P w = ((Builtin.copy_ ts o.type #[ev s, ev x]).run P w).andThen fun v w' => .ok (Next.value v) w' := by
  have e : ∀ (q : Array Value), q[0]? = some (ev s) → q[1]? = some (ev x) → (Builtin.copy_ ts o.type q).run P w = (Builtin.copy_ ts o.type #[ev s, ev x]).run P w := by
    intro q hq0 hq1
    unfold Builtin.copy_
    simp only [hq0, hq1]
    rfl
  have e' := e (args.map ev) (by simp [h0]) (by simp [h1])
  simp only [execOp, hop, resolve, invoke, builtin, Sem.run_bind, Sem.run_pure, Result.andThen_ok]
  rw [e']

theorem evCopy_sound {V : Vw} {L : List Blk} {w : World} (hr : Rel V L w) {ev : Operand → Value} {o : Oper} {args : Array Operand} {ts : Array TypeId} {s x : Operand} {t u e : TypeId} {sz : Nat}
    {ys yx : AV} {new : List AV} {v : AV} {L' : List Blk}
    (hop : o.op = .call { callee := .builtin .copy, args, argTypes := ts }) (h0 : args[0]? = some s) (h1 : args[1]? = some x) (t0 : ts[0]? = some t) (t1 : ts[1]? = some u)
    (ht : P.underlying t = some (.slice e)) (hsz : tsize P e = some sz)
    (hpos : 0 < sz) (hok : new.all (fun y => cellsOk y && decide (y.cells.length = sz)) = true)
    (hs : R V.I V.J (rfOf V.m L) w ys (ev s)) (hx : R V.I V.J (rfOf V.m L) w yx (ev x)) (hel : elems L yx = some new)
    (h : evCopy L ys new sz = some (v, L')) : Good V L w ((execOp ev o).run P w) v L' := by
  unfold evCopy at h
  split at h
  · rename_i b ver off len cap
    split at h
    · rename_i k hk
      split at h
      · rename_i hc
        obtain ⟨c1, c2, c3, c4⟩ := hc
        simp only [Option.some.injEq, Prod.mk.injEq] at h
        obtain ⟨rfl, rfl⟩ := h
        obtain ⟨xm, hxm, _⟩ := hr.entry hk
        obtain ⟨base, cap', hvs, d1, d2, d3, d4, d5⟩ := hs.sl_inv hk hxm c1
        obtain ⟨a, c, us, hvx, hsrc⟩ := src_cells hr hx hel (all_sz hok) hpos
        have hone := hsrc.one hpos hok
        subst c2
        let n := min new.length len
        have hn : n = min new.length len := rfl
        have hml : n * k.esz ≤ new.length * k.esz := Nat.mul_le_mul_right _ (by omega)
        have hul := hsrc.len
        -- the part that is copied
        have hsrc' : SrcAt V L w (new.take len) k.esz a (us.take (n * k.esz)) := by
          refine ⟨?_, fun i j hi hj => ?_, fun hne => ?_⟩
          · simp only [List.length_take, hul]
            rw [Nat.min_eq_left hml, hn, Nat.min_comm]
          · simp only [List.length_take] at hi
            have h3 : (i + 1) * k.esz ≤ n * k.esz := Nat.mul_le_mul_right _ (by omega)
            rw [Nat.add_mul] at h3
            have e1 : (new.take len).getD i .any = new.getD i .any := by
              simp only [List.getD_eq_getElem?_getD, List.getElem?_take, show i < len by omega, if_true]
            have e2 : (us.take (n * k.esz)).getD (i * k.esz + j) undef = us.getD (i * k.esz + j) undef := by
              simp only [List.getD_eq_getElem?_getD, List.getElem?_take, show i * k.esz + j < n * k.esz by omega, if_true]
            rw [e1, e2]
            exact hsrc.rel i j (by omega) hj
          · obtain ⟨b', o', g1, g2⟩ := hsrc.cell (by rintro rfl; simp at hne)
            refine ⟨b', o', g1, fun j hj => ?_⟩
            simp only [List.length_take] at hj
            rw [g2 j (by omega)]
            simp only [List.getD_eq_getElem?_getD, List.getElem?_take, show j < n * k.esz by omega, if_true]
        have hone' : ∀ u ∈ us.take (n * k.esz), u.oneCell' = true := fun u hu => hone u (List.mem_of_mem_take hu)
        have hnl : (us.take (n * k.esz)).length = n * k.esz := by rw [List.length_take, hul, Nat.min_eq_left hml]
        have hfirst : (Builtin.firstCells k.esz n (.slice a new.length c)).run P w = .ok (us.take (n * k.esz)).toArray w :=
          run_first (w' := w) rfl hnl hsrc'.cell new.length
        obtain ⟨cc, ty, q1, q2, q3, q4, q5⟩ := hr.blk b k xm hk hxm
        have hrun : ∀ w', (n = 0 → w' = w) → ((0 < n → (storeCells (⟨xm.1, xm.2.1 + off * k.esz, none⟩ : Addr) (us.take (n * k.esz))).run P w = .ok () w')) → (execOp ev o).run P w = .ok (.value (.int .i64 n)) w' := by
          intro w' hz hst
          rw [exec_copy hop h0 h1, hvs, hvx]
          by_cases h0n : n = 0
          · have : us.take (n * k.esz) = [] := by rw [h0n]; simp
            rw [this] at hfirst
            rw [hz h0n]
            cases base with
            | none => simp [Builtin.copy_, t0, run_underlying ht, Builtin.lenOf, run_sizeOf hsz, show Nat.min new.length len = n from rfl, hfirst, goInt, storeCells]
            | some ad => simp [Builtin.copy_, t0, run_underlying ht, Builtin.lenOf, run_sizeOf hsz, show Nat.min new.length len = n from rfl, hfirst, goInt, storeCells]
          · have hb := d3 (by omega)
            have := hst (by omega)
            subst hb
            simp only [Builtin.copy_, List.getElem?_toArray, List.getElem?_cons_zero, List.getElem?_cons_succ, t0, run_underlying ht, Builtin.lenOf, run_sizeOf hsz, show Nat.min new.length len = n from rfl, hfirst, Sem.run_bind, Sem.run_pure, Result.andThen_ok, goInt]
            rw [this]; rfl
        have hq2 : (off + n) * k.esz ≤ (off + cap') * k.esz := Nat.mul_le_mul_right _ (by omega)
        rw [Nat.add_mul] at hq2
        have hst := run_storeCells_at P xm.1 (xm.2.1 + off * k.esz) ty (us.take (n * k.esz)) 0 cc w q1 (by rw [hnl]; omega) hone'
        generalize hW : w.setRow xm.1 _ = W at hst
        have hexec : (execOp ev o).run P w = .ok (.value (.int .i64 n)) W := by
          refine hrun W (fun h0n => ?_) (fun _ => hst)
          have : us.take (n * k.esz) = [] := by rw [h0n]; simp
          rw [this] at hst
          simp [storeCells] at hst
          exact hst.symm
        have hlen' : (new.take len).length = n := by simp [hn, Nat.min_comm]
        have hov : (overwrite k.l off (new.take len)).length = k.l.length := by
          unfold overwrite
          rw [seg_length _ _ _ (by omega)]
        have key := good_inplace hr (b := b) (off := off) (len := 0) (m := n) (cap2 := cap) (cap' := cap') (k := k) (k' := ⟨k.esz, overwrite k.l off (new.take len)⟩) (x := xm) (news := us.take (n * k.esz)) (new := new.take len) (a := a)
          (r := .ok (.value (.slice (some ⟨xm.1, xm.2.1 + off * k.esz, none⟩) (0 + n) cap')) W) hk hxm hsrc' hone' rfl hlen'
          (fun i hi => by
            have e1 : (new.take len).getD i .any = new.getD i .any := by
              simp only [List.getD_eq_getElem?_getD, List.getElem?_take, show i < len by omega, if_true]
            rw [e1]; exact all_sz hok i (by omega)) (.inr hov)
          (fun i hi => by
            simp only [hov] at hi
            have := seg_getD k.l (new.take len) off i .any (by omega)
            unfold overwrite
            simp only [Nat.add_zero]
            rw [this, hlen']
            by_cases hc : off ≤ i ∧ i < off + n
            · rw [if_pos hc]; exact .inl ⟨hc, rfl⟩
            · rw [if_neg hc]; exact .inr ⟨hc, hi, rfl⟩)
          (by omega) d2 (by rw [hov]; omega) (.inr hov) d4
          (fun w' hw' => by
            rw [Nat.zero_mul, addr_add, Nat.add_zero] at hw'
            rw [hst] at hw'
            cases hw'; rfl)
        obtain ⟨u', V', w', h1', g1, g2, g3, _⟩ := key
        have hww : W = w' := by
          rcases h1' with h1' | ⟨h1', _⟩
          · cases h1'; rfl
          · cases h1'
        subst hww
        exact ⟨_, V', W, .inl hexec, g1, g2, g3, .int _ _⟩
      · simp at h
    · simp at h
  · simp at h

theorem evApp_sound {V : Vw} {L : List Blk} {w : World} (hr : Rel V L w) {ev : Operand → Value} {o : Oper} {args : Array Operand} {ts : Array TypeId} {s x : Operand} {t u e e' : TypeId} {z : AV} {sz by' : Nat}
    {ys yx : AV} {new : List AV} {v : AV} {L' : List Blk}
    (hop : o.op = .call { callee := .builtin .append, args, argTypes := ts }) (h0 : args[0]? = some s) (h1 : args[1]? = some x) (t0 : ts[0]? = some t) (t1 : ts[1]? = some u)
    (ht : P.underlying t = some (.slice e)) (hu : P.underlying u = some (.slice e')) (hsz : tsize P e = some sz) (hby : tbytes P e = some by') (hz : tzero P e = some z)
    (hzs : z.cells.length = sz) (hpos : 0 < sz) (hok : new.all (fun y => cellsOk y && decide (y.cells.length = sz)) = true)
    (hs : R V.I V.J (rfOf V.m L) w ys (ev s)) (hx : R V.I V.J (rfOf V.m L) w yx (ev x)) (hel : elems L yx = some new)
    (h : evApp L ys new sz by' = some (v, L')) : Good V L w ((execOp ev o).run P w) v L' := by
  obtain ⟨i, zv, hi, hzv, rfl⟩ := tzero_some hz
  have hsi : i.size = sz := by simpa [tsize, hi] using hsz
  have hbi : i.bytes = by' := by simpa [tbytes, hi] using hby
  have hzc : zv.cells.size = sz := by rw [← (ofV_cells (I := V.I) (J := V.J) (rf := rfOf V.m L) (w := w) zv).1]; exact hzs
  obtain ⟨a, c, us, hvx, hsrc⟩ := src_cells hr hx hel (all_sz hok) hpos
  have hone := hsrc.one hpos hok
  rw [exec_append hop h0 h1, hvx]
  have hnews : ∀ w', w'.heap = w.heap → (Builtin.firstCells i.size new.length (.slice a new.length c)).run P w' = .ok us.toArray w' := fun w' hw' =>
    run_first hw' (by rw [hsi]; exact hsrc.len) hsrc.cell _
  -- nothing appended
  have empty : new = [] → ∀ base n cap, ev s = .slice base n cap → n ≤ cap → ((Builtin.append_ ts o.type #[ev s, .slice a new.length c]).run P w).andThen (fun v w' => .ok (Next.value v) w') = .ok (Next.value (ev s)) w := by
    intro hne base n cap hes hle
    subst hne
    have hus : us = [] := List.eq_nil_of_length_eq_zero (by simpa using hsrc.len)
    subst hus
    rw [hes, run_append_in ht hu t0 t1 hi (hnews w rfl) (by simpa using hle)]
    cases base <;> simp [storeCells]
  -- the same row or a new one
  have grows : new ≠ [] → ∀ base n cap (olds : List Value) (all : List AV), ev s = .slice base n cap → cap < n + new.length →
      (∀ w', w'.heap = w.heap → (Builtin.firstCells i.size n (.slice base n cap)).run P w' = .ok olds.toArray w') →
      (n + new.length) * by' ≤ 140737488355328 → n + new.length ≤ 9223372036854775807 → olds.length = n * sz → all.length = n + new.length →
      (∀ j, j < n → ∀ q, q < sz → R V.I V.J (rfOf V.m L) w ((all.getD j .any).cells.getD q .any) (olds.getD (j * sz + q) undef)) →
      (∀ j, j < new.length → all.getD (n + j) .any = new.getD j .any) →
      ∃ cap' cells, ((Builtin.append_ ts o.type #[ev s, .slice a new.length c]).run P w).andThen (fun v w' => .ok (Next.value v) w') = .ok (Next.value (.slice (some ⟨w.heap.size, 0, none⟩) all.length cap')) (w.drew.alloc (.cells cells e)) ∧
        all.length ≤ cap' ∧ cap' ≤ 9223372036854775807 ∧ cells.size = cap' * sz ∧ ∀ j q, j < all.length → q < sz → R V.I V.J (rfOf V.m L) w ((all.getD j .any).cells.getD q .any) (cells.getD (j * sz + q) undef) := by
    intro hne base n cap olds all hes hcap holds hb1 hb2 hol hal hR1 hR2
    refine ⟨grownCap w (n + new.length) cap e, olds.toArray ++ us.toArray ++ Builtin.zeroCells zv.cells (grownCap w (n + new.length) cap e - (n + new.length)), ?_, ?_, grownCap_le_maxLen w (n + new.length) cap e (by unfold maxLen; omega), ?_, ?_⟩
    · rw [hes, run_append_grows ht hu t0 t1 hi hzv holds hnews hcap hb2 (by rw [hbi]; exact hb1), hal]
      rfl
    · rw [hal]; exact grownCap_ge _ _ _ _
    · have := grownCap_ge w (n + new.length) cap e
      simp only [Array.size_append, List.size_toArray, size_zeroCells, hol, hsrc.len, hzc]
      rw [← Nat.add_mul, ← Nat.add_mul]
      congr 1; omega
    · intro j q hj hq
      have hq2 : (j + 1) * sz ≤ (n + new.length) * sz := Nat.mul_le_mul_right _ (by omega)
      rw [Nat.add_mul, Nat.add_mul] at hq2
      have hcell : (olds.toArray ++ us.toArray ++ Builtin.zeroCells zv.cells (grownCap w (n + new.length) cap e - (n + new.length))).getD (j * sz + q) undef = (olds ++ us).getD (j * sz + q) undef := by
        have hlt : j * sz + q < (olds ++ us).length := by rw [List.length_append, hol, hsrc.len]; omega
        have hlt' : j * sz + q < (olds.toArray ++ us.toArray).size := by simpa using hlt
        rw [Array.getD_eq_getD_getElem?, Array.getElem?_append_left hlt']
        simp [List.getD_eq_getElem?_getD]
      rw [hcell]
      by_cases hjn : j < n
      · have : (j + 1) * sz ≤ n * sz := Nat.mul_le_mul_right _ hjn
        rw [Nat.add_mul] at this
        have e1 : (olds ++ us).getD (j * sz + q) undef = olds.getD (j * sz + q) undef := by
          simp only [List.getD_eq_getElem?_getD]
          rw [List.getElem?_append_left (by rw [hol]; omega)]
        rw [e1]; exact hR1 j hjn q hq
      · have ej : j = n + (j - n) := by omega
        have em : j * sz = n * sz + (j - n) * sz := by rw [← Nat.add_mul, ← ej]
        have e1 : (olds ++ us).getD (j * sz + q) undef = us.getD ((j - n) * sz + q) undef := by
          simp only [List.getD_eq_getElem?_getD]
          rw [List.getElem?_append_right (by rw [hol]; omega), hol]
          congr 2; omega
        rw [e1]
        have e2 := hR2 (j - n) (by omega)
        rw [← ej] at e2
        rw [e2]
        exact hsrc.rel _ _ (by omega) hq
  unfold evApp at h
  split at h
  · -- nil
    cases hs' : ev s with
    | slice base n cap =>
      rw [hs'] at hs
      cases hs
      split at h
      · rename_i hemp
        simp at h hemp
        obtain ⟨rfl, rfl⟩ := h
        have := empty hemp base 0 0 hs' (Nat.le_refl _)
        rw [hs'] at this
        rw [this]
        exact ⟨_, V, w, .inl rfl, hr, .refl _ _, .refl _, .nilS _⟩
      · rename_i hemp
        split at h
        · rename_i hc
          simp only [Option.some.injEq, Prod.mk.injEq] at h
          obtain ⟨rfl, rfl⟩ := h
          have hne : new ≠ [] := by simpa using hemp
          have hlp := List.length_pos_iff.2 hne
          obtain ⟨cap', cells, g1, g2, gb, g3, g4⟩ := grows hne base 0 0 [] new hs' (by omega) (fun w' hw' => run_first hw' (by simp) (by simp) _) (by simpa using hc.1) (by simpa using hc.2) (by simp) (by simp) (by simp) (by simp)
          rw [hs'] at g1
          rw [g1]
          exact good_newrow hr rfl rfl rfl rfl (all_sz hok) g2 g3 g4 gb
        · simp at h
    | _ => rw [hs'] at hs; cases hs
  · -- data
    rename_i tag l
    split at h
    · rename_i hemp
      simp at h hemp
      obtain ⟨rfl, rfl⟩ := h
      have : ∃ base cap, ev s = .slice base l.length cap ∧ l.length ≤ cap := by
        generalize ev s = vs at hs
        cases hs with
        | ds0 _ ad cap _ => exact ⟨ad, cap, rfl, Nat.zero_le _⟩
        | ds _ _ b o cap esz vs a1 a2 a3 a4 a5 a6 a7 a8 => exact ⟨_, _, rfl, a7⟩
      obtain ⟨base, cap, hes, hle⟩ := this
      rw [empty hemp base _ cap hes hle]
      exact ⟨_, V, w, .inl rfl, hr, .refl _ _, .refl _, hs⟩
    · rename_i hemp
      split at h
      · rename_i hc
        obtain ⟨rfl, hls, hb1, hb2⟩ := hc
        simp only [Option.some.injEq, Prod.mk.injEq] at h
        obtain ⟨rfl, rfl⟩ := h
        have hne : new ≠ [] := by simpa using hemp
        have hlp := List.length_pos_iff.2 hne
        have hlz : ∀ i, i < l.length → (l.getD i .any).cells.length = sz := fun i hi => by
          have := List.all_eq_true.1 hls (l.getD i .any) (by simp [hi])
          simpa using this
        have hcap0 : ∃ base, ev s = .slice base l.length l.length := by
          generalize ev s = vs at hs
          cases hs with
          | ds0 _ ad cap a8 => exact ⟨ad, by rw [a8 rfl]; rfl⟩
          | ds _ _ b o cap esz vs a1 a2 a3 a4 a5 a6 a7 a8 => exact ⟨_, by rw [a8 rfl]⟩
        obtain ⟨base, hes⟩ := hcap0
        obtain ⟨a2, c2, olds, hv2, hsrc2⟩ := src_cells hr hs (new := l) rfl hlz hpos
        rw [hes] at hv2
        simp only [Value.slice.injEq, true_and] at hv2
        obtain ⟨rfl, rfl⟩ := hv2
        obtain ⟨cap', cells, g1, g2, gb, g3, g4⟩ := grows hne base l.length l.length olds (l ++ new) hes (by omega) (fun w' hw' => run_first hw' (by rw [hsi]; exact hsrc2.len) hsrc2.cell _) hb1 hb2 hsrc2.len (by simp)
          (fun j hj q hq => by
            have : (l ++ new).getD j .any = l.getD j .any := by simp only [List.getD_eq_getElem?_getD]; rw [List.getElem?_append_left hj]
            rw [this]; exact hsrc2.rel j q hj hq)
          (fun j hj => by simp only [List.getD_eq_getElem?_getD]; rw [List.getElem?_append_right (by omega)]; congr 2; omega)
        rw [g1]
        have := good_newrow hr (w' := w.drew.alloc (.cells cells e)) rfl rfl rfl rfl (fun i hi => by
          by_cases hil : i < l.length
          · have : (l ++ new).getD i .any = l.getD i .any := by simp only [List.getD_eq_getElem?_getD]; rw [List.getElem?_append_left hil]
            rw [this]; exact hlz i hil
          · have : (l ++ new).getD i .any = new.getD (i - l.length) .any := by simp only [List.getD_eq_getElem?_getD]; rw [List.getElem?_append_right (by omega)]
            rw [this]
            simp at hi
            exact all_sz hok _ (by omega)) g2 g3 g4 gb
        simpa using this
      · simp at h
  · -- a slice of a block of ours
    rename_i b ver off len cap
    split at h
    · rename_i k hk
      split at h
      · rename_i hc
        obtain ⟨hv, hkz⟩ := hc
        subst hkz
        obtain ⟨xm, hxm, hrf⟩ := hr.entry hk
        obtain ⟨base, cap', hes, c1, c2, c3, c4, c5⟩ := hs.sl_inv hk hxm hv
        by_cases hne : new = []
        · -- nothing appended
          have hemp := empty hne base len cap' hes (by omega)
          rw [hemp]
          subst hne
          have e1 : L.set b ⟨k.esz, k.l⟩ = L := by
            have : (⟨k.esz, k.l⟩ : Blk) = k := rfl
            rw [this]
            apply List.ext_getElem?
            intro j
            by_cases hj : b = j
            · subst hj; rw [List.getElem?_set_self (List.getElem?_eq_some_iff.1 hk).1, hk]
            · rw [List.getElem?_set_ne hj]
          rw [if_pos (by simpa using c1)] at h
          simp only [List.length_nil, Nat.add_zero, overwrite, List.append_nil, List.take_append_drop, e1, Option.some.injEq, Prod.mk.injEq] at h
          obtain ⟨rfl, rfl⟩ := h
          exact ⟨_, V, w, .inl rfl, hr, .refl _ _, .refl _, hs⟩
        · have hlp := List.length_pos_iff.2 hne
          have hrunin : ∀ n2, n2 = new.length → len + new.length ≤ cap' → ∀ w', (storeCells ((⟨xm.1, xm.2.1 + off * k.esz, none⟩ : Addr).add (len * k.esz)) us).run P w = .ok () w' →
              ((Builtin.append_ ts o.type #[ev s, .slice a new.length c]).run P w).andThen (fun v w' => .ok (Next.value v) w') = .ok (Next.value (.slice (some ⟨xm.1, xm.2.1 + off * k.esz, none⟩) (len + n2) cap')) w' := by
            intro n2 hn2 hle w' hw'
            subst hn2
            rw [hes, c3 (by omega), run_append_in ht hu t0 t1 hi (hnews w rfl) hle, hsi]
            simp only [hw', Result.andThen_ok]
          split at h
          · -- in place, within the known capacity
            rename_i hle
            simp only [Option.some.injEq, Prod.mk.injEq] at h
            obtain ⟨rfl, rfl⟩ := h
            have hov : (overwrite k.l (off + len) new).length = k.l.length := seg_length _ _ _ (by omega)
            have := good_inplace hr (k' := ⟨k.esz, overwrite k.l (off + len) new⟩) (m := new.length) (len := len) (off := off) (cap2 := cap) (cap' := cap') hk hxm hsrc hone rfl rfl (all_sz hok) (.inr hov)
              (fun i hi => by
                simp only at hi ⊢
                rw [hov] at hi
                have hg := seg_getD k.l new (off + len) i .any (by omega)
                by_cases hc : off + len ≤ i ∧ i < off + len + new.length
                · rw [if_pos hc] at hg; exact .inl ⟨hc, hg⟩
                · rw [if_neg hc] at hg; exact .inr ⟨hc, hi, hg⟩)
              hle c2 (by simp only [hov]; omega) (.inr hov) c4 (fun w' hw' => hrunin _ rfl (by omega) w' hw')
            rw [hov, hv] at this
            exact this
          · rename_i hle
            split at h
            · rename_i hc2
              obtain ⟨rfl, hlv, hb1, hb2⟩ := hc2
              simp only [Option.some.injEq, Prod.mk.injEq] at h
              obtain ⟨rfl, rfl⟩ := h
              have hll : len = k.l.length := by omega
              have hall : (k.l ++ new).length = len + new.length := by simp [hll]
              have hg1 : ∀ j, j < k.l.length → (k.l ++ new).getD j .any = k.l.getD j .any := fun j hj => by
                simp only [List.getD_eq_getElem?_getD]; rw [List.getElem?_append_left hj]
              have hg2 : ∀ j, ¬ j < k.l.length → (k.l ++ new).getD j .any = new.getD (j - k.l.length) .any := fun j hj => by
                simp only [List.getD_eq_getElem?_getD]; rw [List.getElem?_append_right (by omega)]
              by_cases hroom : len + new.length ≤ cap'
              · have := good_inplace hr (k' := ⟨k.esz, k.l ++ new⟩) (m := new.length) (len := len) (off := 0) (cap2 := len + new.length) (cap' := cap') hk hxm hsrc hone rfl rfl (all_sz hok) (.inl (by simp only [hall]; omega))
                  (fun i hi => by
                    simp only at hi ⊢
                    rw [hall] at hi
                    by_cases hik : i < k.l.length
                    · exact .inr ⟨by omega, hik, hg1 i hik⟩
                    · refine .inl ⟨by omega, ?_⟩
                      rw [hg2 i hik, hll, Nat.zero_add])
                  (Nat.le_refl _) hroom (by simp only [hall]; omega) (.inl (by simp only [hall]; omega)) c4 (fun w' hw' => hrunin _ rfl hroom w' hw')
                rw [hall] at this
                exact this
              · obtain ⟨a2, c2', olds, hv2, hsrc2⟩ := src_cells hr hs (new := k.l) (sz := k.esz) (by simp [elems, hk, hv, hlv]; rw [← hv]; exact List.take_length) (fun i hi => by
                  obtain ⟨_, _, _, _, _, d4, _⟩ := hr.blk b k xm hk hxm
                  exact d4 i hi) hpos
                rw [hes] at hv2
                simp only [Value.slice.injEq] at hv2
                obtain ⟨rfl, _, rfl⟩ := hv2
                obtain ⟨cap2, cells, g1, g2, gb, g3, g4⟩ := grows hne base len cap' olds (k.l ++ new) hes (by omega) (fun w' hw' => run_first hw' (by rw [hsi, hsrc2.len, hll]) hsrc2.cell _) hb1 hb2 (by rw [hsrc2.len, hll]) hall
                  (fun j hj q hq => by rw [hg1 j (by omega)]; exact hsrc2.rel j q (by omega) hq)
                  (fun j hj => by rw [hg2 _ (by omega)]; congr 1; omega)
                rw [g1]
                have := good_moved hr (w' := w.drew.alloc (.cells cells e)) hk rfl rfl rfl rfl (all := k.l ++ new) (by rw [hall]; omega) (fun i hi => by
                  by_cases hil : i < k.l.length
                  · rw [hg1 i hil]
                    obtain ⟨_, _, _, _, _, d4, _⟩ := hr.blk b k xm hk hxm
                    exact d4 i hil
                  · rw [hg2 i hil]
                    rw [hall] at hi
                    exact all_sz hok _ (by omega)) g2 g3 g4 gb
                rw [hall] at this
                rw [hall]
                exact this
            · simp at h
      · simp at h
    · simp at h
  · simp at h

end Go.Ev
namespace Go.Ev
open Go Go.RowKit
variable [Gl]

variable {P : Program}

theorem foldl_set_list (off : Nat) : ∀ (l : List Value) (k : Nat) (cells : Array Value), off + k + l.length ≤ cells.size →
    ((l.zipIdx k).foldl (fun cs (x : Value × Nat) => cs.setIfInBounds (off + x.2) x.1) cells).size = cells.size ∧
    ∀ p, ((l.zipIdx k).foldl (fun cs (x : Value × Nat) => cs.setIfInBounds (off + x.2) x.1) cells).getD p undef = if off + k ≤ p ∧ p < off + k + l.length then l.getD (p - (off + k)) undef else cells.getD p undef
  | [], k, cells, _ => ⟨rfl, fun p => by rw [if_neg (by simp)]; rfl⟩
  | v :: l, k, cells, h => by
    simp only [List.length_cons] at h
    obtain ⟨h1, h2⟩ := foldl_set_list off l (k + 1) (cells.setIfInBounds (off + k) v) (by simp; omega)
    simp only [List.zipIdx_cons, List.foldl_cons]
    refine ⟨by rw [h1]; simp, fun p => ?_⟩
    rw [h2]
    by_cases hp : p = off + k
    · subst hp
      rw [if_neg (by omega), if_pos (by simp)]
      simp [Array.getD_eq_getD_getElem?, show off + k < cells.size by omega]
    · by_cases hq : off + (k + 1) ≤ p ∧ p < off + (k + 1) + l.length
      · rw [if_pos hq, if_pos (by simp; omega)]
        rw [show p - (off + k) = (p - (off + (k + 1))) + 1 by omega]
        simp
      · rw [if_neg hq, if_neg (by simp; omega)]
        simp only [Array.getD_eq_getD_getElem?]
        rw [Array.getElem?_setIfInBounds_ne (by omega)]

theorem foldl_set (off : Nat) (vs cells : Array Value) (h : off + vs.size ≤ cells.size) :
    (vs.zipIdx.foldl (fun cs (x : Value × Nat) => cs.setIfInBounds (off + x.2) x.1) cells).size = cells.size ∧
    ∀ p, (vs.zipIdx.foldl (fun cs (x : Value × Nat) => cs.setIfInBounds (off + x.2) x.1) cells).getD p undef = if off ≤ p ∧ p < off + vs.size then vs.getD (p - off) undef else cells.getD p undef := by
  rw [← Array.foldl_toList, Array.toList_zipIdx]
  have := foldl_set_list off vs.toList 0 cells (by simpa using h)
  simpa using this

theorem fillS_sound {I J : Nat → Prop} {rf : Nat → Option E} {w : World} (fields : Array Field) {places : Array (Nat × Nat)}
    (hp : ∀ (i : Nat) fd, fields[i]? = some fd → ∃ n, tsize P fd.type = some n ∧ places[i]? = some (fd.offset, n)) :
    ∀ (parts : List (Nat × AV)) (vparts : List (Nat × Value)) (l l' : List AV) (cells : Array Value), vparts.length = parts.length →
      (∀ (q : Nat) (p : Nat × AV) (vp : Nat × Value), parts[q]? = some p → vparts[q]? = some vp → vp.1 = p.1 ∧ R I J rf w p.2 vp.2) →
      cells.size = l.length → (∀ p, p < l.length → R I J rf w (l.getD p .any) (cells.getD p undef)) → fillS P fields l parts = some l' →
      ∃ cells', Instr.fill (places[·]?) cells vparts = some cells' ∧ cells'.size = l'.length ∧ ∀ p, p < l'.length → R I J rf w (l'.getD p .any) (cells'.getD p undef)
  | [], vparts, l, l', cells, hl, _, hs, hR, h => by
    simp [fillS] at h; subst h
    obtain rfl : vparts = [] := List.eq_nil_of_length_eq_zero hl
    exact ⟨cells, rfl, hs, hR⟩
  | (i, x) :: parts, vparts, l, l', cells, hl, hpt, hs, hR, h => by
    match vparts, hl with
    | (i', v) :: vparts, hl =>
      obtain ⟨rfl, hv⟩ := hpt 0 (i, x) (i', v) rfl rfl
      simp only at hv
      simp only [fillS] at h
      split at h
      · rename_i fd hfd
        split at h
        · rename_i hc
          obtain ⟨c1, c2, c3⟩ := hc
          obtain ⟨v1, v2⟩ := hv.cells c2
          obtain ⟨n, n1, n2⟩ := hp _ fd hfd
          rw [c1] at n1; cases n1
          obtain ⟨f1, f2⟩ := foldl_set fd.offset v.cells cells (by omega)
          have hlen := seg_length l x.cells fd.offset c3
          obtain ⟨cells', g1, g2, g3⟩ := fillS_sound fields hp parts vparts _ l' _ (by simpa using hl) (fun q p vp h1 h2 => hpt (q + 1) p vp (by simpa using h1) (by simpa using h2)) (by rw [f1, hlen, hs])
            (fun p hpl => by
              rw [hlen] at hpl
              rw [seg_getD _ _ _ _ _ c3, f2, v1]
              by_cases hc : fd.offset ≤ p ∧ p < fd.offset + x.cells.length
              · rw [if_pos hc, if_pos hc]; exact v2 _ (by omega)
              · rw [if_neg hc, if_neg hc]; exact hR p hpl) h
          refine ⟨cells', ?_, g2, g3⟩
          simp only [Instr.fill, n2]
          rw [if_neg (by simp; omega)]
          exact g1
        · simp at h
      · simp at h

theorem good_build {V : Vw} {L : List Blk} {w : World} {ρ : Operand → AV} {ev : Operand → Value} (hρ : ∀ x, R V.I V.J (rfOf V.m L) w (ρ x) (ev x))
    {o : Oper} {t : TypeId} {parts : Array (Nat × Operand)} {fields : Array Field} {z : AV} {l : List AV} (hop : o.op = .build t parts)
    (ht : P.underlying t = some (.struct fields)) (hz : tzero P t = some z) (hfs : ∀ fd ∈ fields.toList, ∃ n, tsize P fd.type = some n)
    (h : fillS P fields z.cells (parts.toList.map fun p => (p.1, ρ p.2)) = some l) :
    ∃ u, (execOp ev o).run P w = .ok (.value u) w ∧ R V.I V.J (rfOf V.m L) w (.agg l) u := by
  obtain ⟨i, zv, hi, hzv, rfl⟩ := tzero_some hz
  have hzc := ofV_cells (I := V.I) (J := V.J) (rf := rfOf V.m L) (w := w) zv
  have hmap : ∀ (fs : List Field), (∀ fd ∈ fs, ∃ n, tsize P fd.type = some n) → (fs.mapM (fun f => (do pure (f.offset, ← sizeOf f.type) : Sem (Nat × Nat)))).run P w = .ok (fs.map fun f => (f.offset, (tsize P f.type).getD 0)) w := by
    intro fs hfs
    induction fs with
    | nil => rfl
    | cons f fs ih =>
      obtain ⟨n, hn⟩ := hfs f (by simp)
      rw [List.mapM_cons]
      simp only [Sem.run_bind, run_sizeOf hn, Sem.run_pure, Result.andThen_ok, ih (fun fd hfd => hfs fd (by simp [hfd])), hn, List.map_cons, Option.getD_some]
  let places : Array (Nat × Nat) := (fields.toList.map fun f => (f.offset, (tsize P f.type).getD 0)).toArray
  have hplaces : (fields.mapM (fun f => (do pure (f.offset, ← sizeOf f.type) : Sem (Nat × Nat)))).run P w = .ok places w := by
    have := hmap fields.toList hfs
    rw [Array.mapM_eq_mapM_toList, Sem.run_map, this]
    rfl
  have hp : ∀ (i : Nat) fd, fields[i]? = some fd → ∃ n, tsize P fd.type = some n ∧ places[i]? = some (fd.offset, n) := fun i fd hfd => by
    obtain ⟨n, hn⟩ := hfs fd (by
      have := Array.mem_of_getElem? hfd
      simpa using this)
    exact ⟨n, hn, by simp [places, hfd, hn]⟩
  obtain ⟨cells', g1, g2, g3⟩ := fillS_sound fields hp (parts.toList.map fun p => (p.1, ρ p.2)) (parts.toList.map fun p => (p.1, ev p.2)) (ofV zv).cells l zv.cells (by simp)
    (fun q p vp h1 h2 => by
      simp only [List.getElem?_map, Option.map_eq_some_iff] at h1 h2
      obtain ⟨a, a1, rfl⟩ := h1
      obtain ⟨b, b1, rfl⟩ := h2
      rw [a1] at b1; cases b1
      exact ⟨rfl, hρ _⟩) hzc.1.symm hzc.2 h
  refine ⟨.agg cells', ?_, .agg _ _ g2 g3⟩
  have hzr : (zeroValue t).run P w = .ok zv w := by simp [zeroValue, typeInfo, hi, hzv]
  simp only [execOp, hop, Instr.build, Sem.run_bind, hzr, Result.andThen_ok, run_underlying ht, hplaces]
  have : (Array.map (fun x => (x.fst, ev x.snd)) parts).toList = parts.toList.map fun p => (p.1, ev p.2) := by simp
  rw [this, g1]
  simp

theorem fillE_sound {I J : Nat → Prop} {rf : Nat → Option E} {w : World} {sz : Nat} (h0 : 0 < sz) :
    ∀ (parts : List (Nat × AV)) (vparts : List (Nat × Value)) (l l' : List AV) (cells : Array Value), vparts.length = parts.length →
      (∀ (q : Nat) (p : Nat × AV) (vp : Nat × Value), parts[q]? = some p → vparts[q]? = some vp → vp.1 = p.1 ∧ R I J rf w p.2 vp.2) →
      (∀ i, i < l.length → (l.getD i .any).cells.length = sz) →
      cells.size = l.length * sz → (∀ i j, i < l.length → j < sz → R I J rf w ((l.getD i .any).cells.getD j .any) (cells.getD (i * sz + j) undef)) → fillE sz l parts = some l' →
      ∃ cells', Instr.fill (fun i => some (i * sz, sz)) cells vparts = some cells' ∧ l'.length = l.length ∧ cells'.size = l'.length * sz ∧ (∀ i, i < l'.length → (l'.getD i .any).cells.length = sz) ∧
        ∀ i j, i < l'.length → j < sz → R I J rf w ((l'.getD i .any).cells.getD j .any) (cells'.getD (i * sz + j) undef)
  | [], vparts, l, l', cells, hl, _, hz, hs, hR, h => by
    simp [fillE] at h; subst h
    obtain rfl : vparts = [] := List.eq_nil_of_length_eq_zero hl
    exact ⟨cells, rfl, rfl, hs, hz, hR⟩
  | (i, x) :: parts, vparts, l, l', cells, hl, hpt, hz, hs, hR, h => by
    match vparts, hl with
    | (i', v) :: vparts, hl =>
      obtain ⟨rfl, hv⟩ := hpt 0 (i, x) (i', v) rfl rfl
      simp only at hv
      simp only [fillE] at h
      split at h
      · rename_i hc
        obtain ⟨c1, c2, c3⟩ := hc
        obtain ⟨v1, v2⟩ := hv.cells c2
        have hmul : (i' + 1) * sz ≤ l.length * sz := Nat.mul_le_mul_right _ c1
        rw [Nat.add_mul] at hmul
        obtain ⟨f1, f2⟩ := foldl_set (i' * sz) v.cells cells (by omega)
        have hg : ∀ q, q < l.length → (l.set i' x).getD q .any = if i' = q then x else l.getD q .any := fun q hq => by
          simp only [List.getD_eq_getElem?_getD, getElem?_set', hq, if_true]
          split <;> simp
        obtain ⟨cells', g1, g2, g3, g4, g5⟩ := fillE_sound h0 parts vparts (l.set i' x) l' _ (by simpa using hl) (fun q p vp h1 h2 => hpt (q + 1) p vp (by simpa using h1) (by simpa using h2))
          (fun q hq => by
            simp at hq
            rw [hg q hq]; split
            · exact c3
            · exact hz q hq) (by rw [f1, hs]; simp)
          (fun q j hq hj => by
            simp at hq
            rw [hg q hq, f2, v1, c3]
            by_cases hiq : i' = q
            · subst hiq
              rw [if_pos rfl, if_pos (by omega)]
              rw [show i' * sz + j - i' * sz = j by omega]
              exact v2 j (by omega)
            · rw [if_neg hiq, if_neg ?_]
              · exact hR q j hq hj
              · intro hc
                rcases Nat.lt_or_gt_of_ne hiq with h | h
                · have := Nat.mul_le_mul_right sz (show i' + 1 ≤ q by omega)
                  rw [Nat.add_mul] at this; omega
                · have := Nat.mul_le_mul_right sz (show q + 1 ≤ i' by omega)
                  rw [Nat.add_mul] at this; omega) h
        refine ⟨cells', ?_, by simpa using g2, g3, g4, g5⟩
        simp only [Instr.fill]
        rw [if_neg (by simp; omega)]
        exact g1
      · simp at h

end Go.Ev
namespace Go.Ev
open Go Go.RowKit
variable [Gl] [Lit]

variable {P : Program}

theorem good_buildSlice0 {V : Vw} {L : List Blk} {w : World} (hr : Rel V L w) {ev : Operand → Value} {o : Oper} {t e : TypeId} {sz : Nat} {parts : Array (Nat × Operand)}
    (hop : o.op = .buildSlice t 0 parts) (ht : P.underlying t = some (.slice e)) (hs : tsize P e = some sz) (hp : parts.size = 0) :
    Good V L w ((execOp ev o).run P w) (.sl L.length 0 0 0 0) (L ++ [⟨sz, []⟩]) := by
  have hpe : parts = #[] := Array.eq_empty_of_size_eq_zero hp
  subst hpe
  have hrun : (execOp ev o).run P w = .ok (.value (.slice (some ⟨w.heap.size, 0, none⟩) 0 0)) (w.alloc (.cells #[] e)) := by
    simp only [execOp, hop, Instr.buildSlice, Sem.run_bind, run_underlying ht, run_sizeOf hs, Result.andThen_ok]
    simp [Instr.fill, newRow]
    rw [show Array.range 0 = #[] from rfl]
    simp
  rw [hrun]
  have := good_newrow hr (w' := w.alloc (.cells #[] e)) (all := []) (sz := sz) (cap' := 0) (e := e) (cells := #[]) rfl rfl rfl rfl (by simp) (Nat.le_refl _) (by simp) (by simp) (by omega)
  exact this

theorem buildSlice_run {V : Vw} {L : List Blk} {w : World} {ρ : Operand → AV} {ev : Operand → Value} (hρ : ∀ x, R V.I V.J (rfOf V.m L) w (ρ x) (ev x))
    {o : Oper} {t e : TypeId} {len sz : Nat} {parts : Array (Nat × Operand)} {z : AV} {l : List AV}
    (hop : o.op = .buildSlice t len parts) (ht : P.underlying t = some (.slice e)) (hs : tsize P e = some sz) (hz : tzero P e = some z) (hzs : z.cells.length = sz)
    (hmax : len * sz ≤ 16777216) (h0 : 0 < sz) (hlen : len ≠ 0) (h : fillE sz (List.replicate len z) (parts.toList.map fun p => (p.1, ρ p.2)) = some l) :
    l.length = len ∧ ∃ cells : Array Value, (execOp ev o).run P w = .ok (.value (.slice (some ⟨w.heap.size, 0, none⟩) len len)) (w.alloc (.cells cells e)) ∧ cells.size = len * sz ∧
      (∀ i, i < l.length → (l.getD i .any).cells.length = sz) ∧ (∀ i j, i < l.length → j < sz → R V.I V.J (rfOf V.m L) w ((l.getD i .any).cells.getD j .any) (cells.getD (i * sz + j) undef)) := by
  obtain ⟨i, zv, hi, hzv, rfl⟩ := tzero_some hz
  have hzc := ofV_cells (I := V.I) (J := V.J) (rf := rfOf V.m L) (w := w) zv
  have hzsz : zv.cells.size = sz := by rw [← hzc.1]; exact hzs
  let cells0 : Array Value := (Array.range (len * sz)).map (fun x => zv.cells[x % zv.cells.size]!)
  obtain ⟨cells, g1, g2, g3, g4, g5⟩ := fillE_sound (I := V.I) (J := V.J) (rf := rfOf V.m L) (w := w) h0 (parts.toList.map fun p => (p.1, ρ p.2)) (parts.toList.map fun p => (p.1, ev p.2)) (List.replicate len (ofV zv)) l cells0 (by simp)
    (fun q p vp h1 h2 => by
      simp only [List.getElem?_map, Option.map_eq_some_iff] at h1 h2
      obtain ⟨a, a1, rfl⟩ := h1
      obtain ⟨b, b1, rfl⟩ := h2
      rw [a1] at b1; cases b1
      exact ⟨rfl, hρ _⟩)
    (fun i hi => by simp at hi; simp [hi, hzs]) (by simp [cells0])
    (fun i j hi hj => by
      simp only [List.length_replicate] at hi
      have hlt : i * sz + j < len * sz := by
        have := Nat.mul_le_mul_right sz (show i + 1 ≤ len by omega)
        rw [Nat.add_mul] at this
        omega
      have ec : cells0.getD (i * sz + j) undef = zv.cells.getD j undef := by
        have hjz : j < zv.cells.size := by omega
        have e3 : (Array.range (len * sz))[i * sz + j]? = some (i * sz + j) := by
          rw [Array.getElem?_eq_getElem (by simpa using hlt)]; simp
        simp only [cells0, Array.getD_eq_getD_getElem?, Array.getElem?_map, e3, hzsz, Option.map_some, Option.getD_some]
        rw [Nat.mul_comm i sz, Nat.mul_add_mod, Nat.mod_eq_of_lt hj]
        simp [hjz]
      rw [ec]
      have e0 : (List.replicate len (ofV zv)).getD i .any = ofV zv := by simp [hi]
      rw [e0]
      exact hzc.2 j (by omega)) h
  have hll : l.length = len := by simpa using g2
  have hzr : (zeroValue e).run P w = .ok zv w := by simp [zeroValue, typeInfo, hi, hzv]
  have hne : ¬ (len * sz = 0) := by
    intro hc
    rcases Nat.mul_eq_zero.1 hc with h | h <;> omega
  have hrun : (execOp ev o).run P w = .ok (.value (.slice (some ⟨w.heap.size, 0, none⟩) len len)) (w.alloc (.cells cells e)) := by
    simp only [execOp, hop, Instr.buildSlice, Sem.run_bind, run_underlying ht, run_sizeOf hs, Result.andThen_ok]
    rw [if_neg (by omega)]
    simp only [Sem.run_pure, Result.andThen_ok, if_neg hne, Sem.run_bind, hzr]
    have : (Array.map (fun x => (x.fst, ev x.snd)) parts).toList = parts.toList.map fun p => (p.1, ev p.2) := by simp
    rw [this, g1]
    simp [newRow]
  exact ⟨hll, cells, hrun, by rw [g3, hll], g4, g5⟩
theorem good_buildSlice {V : Vw} {L : List Blk} {w : World} (hr : Rel V L w) {ρ : Operand → AV} {ev : Operand → Value} (hρ : ∀ x, R V.I V.J (rfOf V.m L) w (ρ x) (ev x))
    {o : Oper} {t e : TypeId} {len sz : Nat} {parts : Array (Nat × Operand)} {z : AV} {l : List AV}
    (hop : o.op = .buildSlice t len parts) (ht : P.underlying t = some (.slice e)) (hs : tsize P e = some sz) (hz : tzero P e = some z) (hzs : z.cells.length = sz)
    (hmax : len * sz ≤ 16777216) (h0 : 0 < sz) (hlen : len ≠ 0) (h : fillE sz (List.replicate len z) (parts.toList.map fun p => (p.1, ρ p.2)) = some l) :
    Good V L w ((execOp ev o).run P w) (.ds 2 l) L := by
  obtain ⟨hll, cells, hrun, g3, g4, g5⟩ := buildSlice_run hρ hop ht hs hz hzs hmax h0 hlen h
  rw [hrun]
  obtain ⟨hr', hst⟩ := hr.allocJ (.cells cells e (0, 0)) (w' := w.alloc (.cells cells e)) rfl rfl rfl rfl
  refine ⟨_, _, _, .inl rfl, hr', hst, .refl _, ?_⟩
  rw [← hll]
  have hpos : 0 < l.length := by omega
  refine .ds 2 l w.heap.size 0 l.length sz (fun p => cells.getD p undef) (fun _ => .inr rfl) (.inr (.inr rfl)) (List.length_pos_iff.1 hpos) g4 (fun p hp => ?_) (fun i j hi hj => ?_) (Nat.le_refl _) (fun _ => rfl)
  · rw [Nat.zero_add]
    refine cell_of_block (heap_alloc_new w _) ?_
    rw [g3, ← hll]; exact hp
  · exact (g5 i j hi hj).step hr hst (.refl _)
theorem good_buildSliceB {V : Vw} {L : List Blk} {w : World} (hr : Rel V L w) {ρ : Operand → AV} {ev : Operand → Value} (hρ : ∀ x, R V.I V.J (rfOf V.m L) w (ρ x) (ev x))
    {o : Oper} {t e : TypeId} {len sz : Nat} {parts : Array (Nat × Operand)} {z : AV} {l : List AV}
    (hop : o.op = .buildSlice t len parts) (ht : P.underlying t = some (.slice e)) (hs : tsize P e = some sz) (hz : tzero P e = some z) (hzs : z.cells.length = sz)
    (hmax : len * sz ≤ 16777216) (h0 : 0 < sz) (hlen : len ≠ 0) (h : fillE sz (List.replicate len z) (parts.toList.map fun p => (p.1, ρ p.2)) = some l) :
    Good V L w ((execOp ev o).run P w) (.sl L.length len 0 len len) (L ++ [⟨sz, l⟩]) := by
  obtain ⟨hll, cells, hrun, g3, g4, g5⟩ := buildSlice_run hρ hop ht hs hz hzs hmax h0 hlen h
  rw [hrun]
  have hb : len ≤ 9223372036854775807 := by
    have := Nat.le_mul_of_pos_right len h0
    omega
  have key := good_newrow hr (w' := w.alloc (.cells cells e)) (all := l) (cells := cells) (e := e) (sz := sz) (cap' := len) rfl rfl rfl rfl g4 (by omega) g3 g5 hb
  rw [hll] at key
  exact key

theorem evE_sound {V : Vw} {L : List Blk} {w : World} (hr : Rel V L w) {ρ : Operand → AV} {ev : Operand → Value} (hρ : ∀ x, R V.I V.J (rfOf V.m L) w (ρ x) (ev x))
    {o : Oper} {v : AV} {L' : List Blk} 
    (h : evE P ρ L o.op = some (v, L')) : Good V L w ((execOp ev o).run P w) v L' := by
  unfold evE at h
  split at h
  case h_1 t hop =>
    simp only [Option.map_eq_some_iff, Prod.mk.injEq] at h
    obtain ⟨z, hz, rfl, rfl⟩ := h
    exact good_alloc hr hop hz
  case h_2 t x hop =>
    split at h
    · rename_i he
      simp only [Option.some.injEq, Prod.mk.injEq] at h
      obtain ⟨rfl, rfl⟩ := h
      exact good_box hr hop (hρ x) he
    · simp at h
  case h_3 t parts hop =>
    split at h
    · rename_i fields z ht hz
      split at h
      · rename_i hok
        simp only [Option.map_eq_some_iff, Prod.mk.injEq] at h
        obtain ⟨l, hl, rfl, rfl⟩ := h
        have hfs : ∀ fd ∈ fields.toList, ∃ n, tsize P fd.type = some n := fun fd hfd => by
          unfold fieldsOK at hok
          rw [ht] at hok
          exact Option.isSome_iff_exists.1 (List.all_eq_true.1 hok fd hfd)
        obtain ⟨u, h1, h2⟩ := good_build hρ hop ht hz hfs hl
        exact ⟨u, V, w, .inl h1, hr, .refl _ _, .refl _, h2⟩
      · simp at h
    · simp at h
  case h_4 t len parts hop =>
    split at h
    · rename_i e ht
      split at h
      · rename_i z sz hz hs
        split at h
        · rename_i hc
          obtain ⟨c1, c2, c3⟩ := hc
          split at h
          · rename_i hl
            split at h
            · rename_i hp
              simp only [Option.some.injEq, Prod.mk.injEq] at h
              obtain ⟨rfl, rfl⟩ := h
              subst hl
              exact good_buildSlice0 hr hop ht hs hp
            · simp at h
          · rename_i hl
            simp only [Option.map_eq_some_iff] at h
            obtain ⟨l, hl', h⟩ := h
            split at h <;> (simp only [Prod.mk.injEq] at h; obtain ⟨rfl, rfl⟩ := h)
            · exact good_buildSliceB hr hρ hop ht hs hz c1 c2 c3 hl hl'
            · exact good_buildSlice hr hρ hop ht hs hz c1 c2 c3 hl hl'
        · simp at h
      · simp at h
    · simp at h
  case h_5 t l c hop =>
    split at h
    · rename_i e k n k' n' ht hl hc
      have h1 := hρ l; rw [hl] at h1
      have h2 := hρ c; rw [hc] at h2
      split at h
      · rename_i z sz by' hz hs hb
        split at h
        · rename_i hcd
          obtain ⟨c0, c1, c2, c3, c4, c5⟩ := hcd
          simp only [Option.some.injEq, Prod.mk.injEq] at h
          obtain ⟨rfl, rfl⟩ := h
          exact good_makeSlice hr hop ht hz hs hb h1.int_inv h2.int_inv c0 c1 c2 c3 c4 c5
        · simp at h
      · simp at h
    · simp at h
  case h_6 t a x hop =>
    split at h
    · rename_i n b ver i off hn ha
      have h1 := hρ a; rw [ha] at h1
      split at h
      · rename_i k hk
        split at h
        · rename_i hc
          obtain ⟨c1, c2, c3, c4, c5, c6⟩ := hc
          simp only [Option.some.injEq, Prod.mk.injEq] at h
          obtain ⟨rfl, rfl⟩ := h
          exact good_store hr hop hn h1 (hρ x) hk c1 c2 c3 c4 c5 c6
        · simp at h
      · simp at h
    · simp at h
  case h_7 args ts hop =>
    split at h
    · rename_i t u s x t0 t1 h0 h1
      split at h
      · rename_i e e' ht hu
        split at h
        · rename_i sz by' z new hs hb hz he
          split at h
          · rename_i hc
            exact evApp_sound hr hop h0 h1 t0 t1 ht hu hs hb hz hc.1 hc.2.1 hc.2.2 (hρ s) (hρ x) he h
          · simp at h
        · simp at h
      · simp at h
    · simp at h
  case h_8 args ts hop =>
    split at h
    · rename_i t u s x t0 t1 h0 h1
      split at h
      · rename_i e ht
        split at h
        · rename_i sz new hs he
          split at h
          · rename_i hc
            exact evCopy_sound hr hop h0 h1 t0 t1 ht hs hc.1 hc.2 (hρ s) (hρ x) he h
          · simp at h
        · simp at h
      · simp at h
    · simp at h
  case h_9 => simp at h

end Go.Ev
