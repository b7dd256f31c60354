/- Contracts of functions that the laws of this seat call. -/
import Derived.Test.YtkmnepmnjpdpkaaGreatDoorXd
import Derived.Test.YtkmnepmnjpdpkaaGreatDoorShelf
import Derived.Test.YtkmnepmnjpdpkaaGreatDoorEvC
set_option linter.all false
namespace Go.Proofs.YtkmnepmnjpdpkaaGreatDoor
open Go Go.Ev Go.RowKit Go.Ev.Enc Go.Pl

structure AtR where
  n : Int
  e : Bool
instance : Enc AtR where
  enc _ a := .tup [.int .i64 a.n, .ifc a.e]
  dec | .tup [.int .i64 n, .ifc e] => some ⟨n, e⟩
      | _ => none
  ok x a := by
    constructor
    · intro h; split at h <;> simp at h; rw [← h]
    · rintro rfl; rfl
  own _ := .tup _ (by
    intro x hx
    simp only [List.mem_cons, List.not_mem_nil, or_false] at hx
    rcases hx with rfl | rfl
    · exact .int _ _
    · exact .ifc _)
theorem enc_atr (t n e) : (enc t (⟨n, e⟩ : AtR) : AV) = .tup [.int .i64 n, .ifc e] := rfl
attribute [go_sem] enc_atr
def atoF (l : List UInt8) : AtR := match Lib.atoiAll l with
  | .ok v => ⟨v, false⟩
  | .range => ⟨Lib.atoiSat l, true⟩
  | _ => ⟨0, true⟩
def gAtoi (s : ByteArray) : Option AtR := gd (s.size < 4294967281) (atoF s.data.toList)
theorem gAtoi_eq {s : ByteArray} (h : s.size < 4294967281) : gAtoi s = some (atoF s.data.toList) := gd_eq h
set_option maxHeartbeats 4000000 in
set_option maxRecDepth 100000 in
theorem spec_Atoi {Sg : FuncId → Option (List AV → Option AV)} (hS : Sound Tryz.prog Sg) : ∀ a r, F1 gAtoi a = some r → CSpec Tryz.prog 121 a r := by
  refine F1_spec ?_
  intro s r hr
  obtain ⟨h, rfl⟩ := gd_some hr
  refine CSpec.plain (us := [.string s]) rfl ?_
  intro I w hI hG
  unfold atoF
  cases ha : Lib.atoiAll s.data.toList
  · rename_i v
    refine (Tryz.strconv_Atoi_ok s (by omega) v ha w).mono ?_
    rintro e w' ⟨rfl, hw⟩
    refine ⟨_, fun _ => False, rfl, ?_, fun _ h => h.elim, .tup _ _ rfl ?_⟩
    · rcases hw with rfl | ⟨t, rfl⟩
      · exact Below.refl _ _
      · exact Lib.bytesWorld_below _ _ _
    · intro i hi
      match i, hi with
      | 0, _ => exact .int _ _
      | 1, _ => exact .ifcN
  · obtain ⟨ev, hv, hev⟩ := okSyn hG.ok
    refine (Tryz.strconv_Atoi_syntax s (by omega) ha ev w hv hev).mono ?_
    rintro e w' ⟨N, rfl, -, -, hb⟩
    refine ⟨_, fun _ => False, rfl, hb, fun _ h => h.elim, .tup _ _ rfl ?_⟩
    intro i hi
    match i, hi with
    | 0, _ => exact .int _ _
    | 1, _ => exact .ifcS _ _
  · obtain ⟨ev, hv, hev⟩ := okRan hG.ok
    refine (Tryz.strconv_Atoi_range s (by omega) ha ev w hv hev).mono ?_
    rintro e w' ⟨N, rfl, -, -, hb⟩
    refine ⟨_, fun _ => False, rfl, hb, fun _ h => h.elim, .tup _ _ rfl ?_⟩
    intro i hi
    match i, hi with
    | 0, _ => exact .int _ _
    | 1, _ => exact .ifcS _ _
theorem splitB_one (s : ByteArray) (c : UInt8) : Lib.splitB (bs [c]) 0 (Lib.countB s (bs [c])) s = (spl c s.data.toList).map bs := by
  have h := Lib.splitB_data (bs [c]) 0 (Lib.countB s (bs [c])) s
  rw [data_bs] at h
  unfold Lib.countB at h ⊢
  rw [data_bs, splitK_one c _ _ (Nat.le_refl _)] at h
  rw [data_bs, ← h, List.map_map]
  conv => lhs; rw [← List.map_id (Lib.splitB _ _ _ _)]
  exact List.map_congr_left fun x _ => (bs_data x).symm
def gSplit (s c : ByteArray) : Option (List ByteArray) := gd (s.size < 4294967281 ∧ c = cSp) ((spl 32 s.data.toList).map bs)
theorem gSplit_eq {s : ByteArray} (h : s.size < 4294967281) : gSplit s cSp = some ((spl 32 s.data.toList).map bs) := gd_eq ⟨h, rfl⟩
set_option maxHeartbeats 4000000 in
set_option maxRecDepth 100000 in
theorem spec_Split {Sg : FuncId → Option (List AV → Option AV)} (hS : Sound Tryz.prog Sg) : ∀ a r, F2 gSplit a = some r → CSpec Tryz.prog 119 a r := by
  refine F2_spec ?_
  intro s c r hr
  obtain ⟨⟨h, rfl⟩, rfl⟩ := gd_some hr
  refine CSpec.plain (us := [.string s, .string cSp]) rfl ?_
  intro I w hI hG
  obtain ⟨m, hm⟩ := okMax hG.ok
  refine (Tryz.strings_Split s cSp m w h hm (by decide)).mono ?_
  rintro e w' ⟨rfl, rfl⟩
  have hs : Lib.splitB cSp 0 (Lib.countB s cSp) s = (spl 32 s.data.toList).map bs := splitB_one s 32
  have hl := Lib.splitB_all cSp (by decide) 0 _ s rfl
  rw [hs] at hl ⊢
  have hne : (spl 32 s.data.toList).map bs ≠ [] := by simp [spl_ne]
  refine ⟨_, fun x => x = w.heap.size, rfl, Joins.below_alloc1 _ _, fun x hx => by subst hx; simp, ?_⟩
  rw [← hl]
  exact R.strs hne
structure Cu3 where
  a : ByteArray
  b : ByteArray
  f : Bool
instance : Enc Cu3 where
  enc _ c := .tup [.str c.a, .str c.b, .bool c.f]
  dec | .tup [.str a, .str b, .bool f] => some ⟨a, b, f⟩
      | _ => none
  ok x a := by
    constructor
    · intro h; split at h <;> simp at h; rw [← h]
    · rintro rfl; rfl
  own _ := .tup _ (by
    intro x hx
    simp only [List.mem_cons, List.not_mem_nil, or_false] at hx
    rcases hx with rfl | rfl | rfl
    · exact .str _
    · exact .str _
    · exact .bool _)
theorem enc_cu3 (t a b f) : (enc t (⟨a, b, f⟩ : Cu3) : AV) = .tup [.str a, .str b, .bool f] := rfl
attribute [go_sem] enc_cu3
def cutB3 (s c : ByteArray) : Cu3 := ⟨bs (Lib.cut s.data.toList c.data.toList).1, bs (Lib.cut s.data.toList c.data.toList).2.1, (Lib.cut s.data.toList c.data.toList).2.2⟩
def gCut (s c : ByteArray) : Option Cu3 := gd (s.size < 4294967281) (cutB3 s c)
theorem gCut_eq {s c : ByteArray} (h : s.size < 4294967281) : gCut s c = some (cutB3 s c) := gd_eq h
set_option maxHeartbeats 4000000 in
set_option maxRecDepth 100000 in
theorem spec_Cut {Sg : FuncId → Option (List AV → Option AV)} (hS : Sound Tryz.prog Sg) : ∀ a r, F2 gCut a = some r → CSpec Tryz.prog 90 a r := by
  refine F2_spec ?_
  intro s c r hr
  obtain ⟨h, rfl⟩ := gd_some hr
  refine CSpec.plain (us := [.string s, .string c]) rfl ?_
  intro I w hI hG
  obtain ⟨m, hm⟩ := okMax hG.ok
  refine (Tryz.strings_Cut s c m w h hm).mono ?_
  rintro e w' ⟨rfl, n, rfl⟩
  refine ⟨_, fun _ => False, rfl, Joins.below_draws _ _ _, fun _ h => h.elim, .tup _ _ rfl ?_⟩
  intro i hi
  match i, hi with
  | 0, _ => exact .str _
  | 1, _ => exact .str _
  | 2, _ => exact .bool _
end Go.Proofs.YtkmnepmnjpdpkaaGreatDoor
