/- strconv.Atoi, strconv.Itoa; words cut at a sign; rule.leaf. -/
import Derived.Test.YtpgbgeofhcpocaaGreatDoorRuF
import Derived.Lib.LaidTab
import Derived.Lib.AppendIntMem
namespace Go.Proofs.YtpgbgeofhcpocaaGreatDoor
open Go.RowKit Go.Maps Go.Shelf
set_option linter.unusedVariables false

def InI (v : Int) : Prop := -9223372036854775808 ≤ v ∧ v ≤ 9223372036854775807
/-- The library's two errors are there. -/
def VarIs (w : World) (n : String) : Prop := ∃ tp p, w.var? Tryz.prog n = some #[.iface tp p]
def ErrAt (w : World) : Prop := VarIs w "strconv.ErrSyntax" ∧ VarIs w "strconv.ErrRange"
theorem VarIs.keep {w w' : World} {n : String} (h : VarIs w n) (hb : Below w.heap.size w w') : VarIs w' n := by
  obtain ⟨tp, p, h⟩ := h
  refine ⟨tp, p, ?_⟩
  unfold World.var? at *
  cases hg : Tryz.prog.globalNamed n with
  | none => simp [hg] at h
  | some g =>
    simp only [hg, Option.bind_some] at h ⊢
    have hlt : g < w.heap.size := by
      rcases Nat.lt_or_ge g w.heap.size with h' | h'
      · exact h'
      · rw [Array.getElem?_eq_none h'] at h; simp at h
    rw [hb.block g hlt]
    exact h
theorem ErrAt.keep {w w' : World} (h : ErrAt w) (hb : Below w.heap.size w w') : ErrAt w' := ⟨h.1.keep hb, h.2.keep hb⟩
/-- What Atoi makes of a word. -/
def AtoiR (s : ByteArray) (v : Int) (ok : Bool) : Prop := InI v ∧ (ok = true → Lib.atoiAll s.data.toList = .ok v) ∧ (ok = false → ∀ z, Lib.atoiAll s.data.toList ≠ .ok z)
def AtoiE (s : ByteArray) (e : Ending) : Prop := (∃ v, e = .returned (.tuple #[.int .i64 v, .nilIface]) ∧ AtoiR s v true) ∨ ∃ v t N, e = .returned (.tuple #[.int .i64 v, .iface t (.pointer (some ⟨N, 0, none⟩))]) ∧ AtoiR s v false
theorem atoi_any (s : ByteArray) (w : World) (hs : s.size ≤ 1000000) (he : ErrAt w) : Calls Tryz.prog 60 #[.string s] w fun e w' => AtoiE s e ∧ Below w.heap.size w w' := by
  cases h : Lib.atoiAll s.data.toList
  · rename_i v
    refine Calls.mono (Any.strconv_Atoi_ok Tryz.laysC172 s (by omega) v h w) ?_
    rintro e w' ⟨rfl, hw⟩
    refine ⟨Or.inl ⟨v, rfl, Lib.atoiAll_bounds h, fun _ => h, fun h => by cases h⟩, ?_⟩
    rcases hw with rfl | ⟨t, rfl⟩
    · exact Below.refl _ _
    · exact Lib.bytesWorld_below _ _ _
  · obtain ⟨⟨tp, p, hv⟩, _⟩ := he
    refine Calls.mono (Any.strconv_Atoi_syntax_var Tryz.laysC172 s (by omega) h tp p w hv) ?_
    rintro e w' ⟨N, rfl, _, _, hb⟩
    exact ⟨Or.inr ⟨0, _, N, rfl, ⟨by decide, by decide⟩, fun h => (by cases h), fun _ z hz => by rw [h] at hz; cases hz⟩, hb⟩
  · obtain ⟨_, tp, p, hv⟩ := he
    refine Calls.mono (Any.strconv_Atoi_range_var Tryz.laysC172 s (by omega) h tp p w hv) ?_
    rintro e w' ⟨N, rfl, _, _, hb⟩
    exact ⟨Or.inr ⟨_, _, N, rfl, Lib.atoiSat_bounds _, fun h => (by cases h), fun _ z hz => by rw [h] at hz; cases hz⟩, hb⟩
abbrev hypOf {A B : Prop} (_ : A → B) : Prop := A
/-- The library's table of powers of ten is there. -/
def TabAt (w : World) : Prop := hypOf (Any.strconv_Itoa Tryz.laysM171 0 (by decide) (by decide) w)
theorem TabAt.keep {w w' : World} (h : TabAt w) (hb : Below w.heap.size w w') : TabAt w' := Lib.tabBelow_of_tabIs h w' hb
theorem itoa_any (n : Int) (h0 : -9223372036854775808 ≤ n) (h1 : n ≤ 9223372036854775807) (w : World) (htab : TabAt w) :
    Calls Tryz.prog 29 #[.int .i64 n] w fun e w' => e = .returned (.string ⟨(Lib.itoa n).toArray⟩) ∧ Below w.heap.size w w' := by
  refine Calls.mono (Any.strconv_Itoa Tryz.laysM171 n h0 h1 w htab) ?_
  rintro e w' ⟨rfl, k, os, rfl⟩
  exact ⟨rfl, Lib.below_grow _ w (Nat.le_refl _) k os⟩

/-! ### plain -/
theorem lit_yes {a : ByteArray} {L : List UInt8} (h : a = ⟨L.toArray⟩) : (a.toList == L) = true := by
  rw [Lib.toList_data, h]
  simp
theorem lit_no {a : ByteArray} {L : List UInt8} (h : a ≠ ⟨L.toArray⟩) : (a.toList == L) = false := by
  rw [beq_eq_false_iff_ne, Lib.toList_data]
  intro e
  exact h (ba_ext (by rw [e]))
def isS (b : UInt8) : Bool := b == 58 || b == 60 || b == 62
theorem signs_is (b : UInt8) : ([58, 60, 62] : List UInt8).contains b = isS b := by
  simp only [isS, List.contains_cons, List.contains_nil, Bool.or_false]
  rw [Bool.or_assoc]
theorem first_one {L p r : List UInt8} {c x : UInt8} {k : Nat} (h : L = p ++ c :: r) (hp : ∀ b ∈ p, isS b = false) (hc : isS c = true) (hk : L[k]? = some x) (hx : isS x = true) (hn : ∀ (j : Nat) b, j < k → L[j]? = some b → isS b = false) : L.take k = p ∧ x = c ∧ L.drop (k + 1) = r := by
  have hkp : k = p.length := by
    rcases Nat.lt_trichotomy k p.length with h1 | h1 | h1
    · rw [h, List.getElem?_append_left h1] at hk
      have := hp x (List.mem_of_getElem? hk)
      rw [this] at hx
      cases hx
    · exact h1
    · have h2 : L[p.length]? = some c := by rw [h, List.getElem?_append_right (Nat.le_refl _)]; simp
      rw [hn _ c h1 h2] at hc
      cases hc
  subst hkp
  subst h
  refine ⟨by simp, ?_, by simp⟩
  rw [List.getElem?_append_right (Nat.le_refl _), Nat.sub_self] at hk
  simpa using hk.symm
/-- A leaf that is cut at a sign. -/
theorem leaf_cut {a : Leaf} (h1 : a ≠ .follows) (h2 : a ≠ .done) : ∃ p c r, (leafT a).data.toList = p ++ c :: r ∧ (∀ b ∈ p, isS b = false) ∧ isS c = true ∧ ((∃ x, a = .tag x ∧ p = tagW.data.toList ∧ c = 58 ∧ r = x.data.toList) ∨ (∃ x, a = .maker x ∧ p = makerW.data.toList ∧ c = 58 ∧ r = x.data.toList) ∨ ∃ k less n, a = .num k less n ∧ p = (whatW k).data.toList ∧ c = (if less then 60 else 62) ∧ r = Lib.decDigits n) := by
  cases a with
  | follows => exact absurd rfl h1
  | done => exact absurd rfl h2
  | tag x => exact ⟨tagW.data.toList, 58, x.data.toList, by simp [leafT, colonW], by decide, by decide, Or.inl ⟨x, rfl, rfl, rfl, rfl⟩⟩
  | maker x => exact ⟨makerW.data.toList, 58, x.data.toList, by simp [leafT, colonW], by decide, by decide, Or.inr (Or.inl ⟨x, rfl, rfl, rfl, rfl⟩)⟩
  | num k less n =>
    refine ⟨(whatW k).data.toList, if less then 60 else 62, Lib.decDigits n, ?_, ?_, ?_, Or.inr (Or.inr ⟨k, less, n, rfl, rfl, rfl, rfl⟩)⟩
    · cases less <;> simp [leafT, signW, digW]
    · rcases what_cases k with ⟨e, _⟩ | ⟨e, _⟩ | ⟨e, _⟩ | ⟨e, _⟩ <;> rw [e] <;> decide
    · cases less <;> decide
/-- Where a word holds a sign: its beginning, the sign, and what is behind. -/
structure CutAt (w what rest : ByteArray) (x : UInt8) : Prop where
  all : w.data.toList = what.data.toList ++ x :: rest.data.toList
  free : ∀ b ∈ what.data.toList, isS b = false
  sign : isS x = true
theorem CutAt.leaf {w what rest : ByteArray} {x : UInt8} (h : CutAt w what rest x) {a : Leaf} (ha : IsLeaf w a) : (∃ y, a = .tag y ∧ what = tagW ∧ x = 58 ∧ rest = y) ∨ (∃ y, a = .maker y ∧ what = makerW ∧ x = 58 ∧ rest = y) ∨ ∃ k less n, a = .num k less n ∧ what = whatW k ∧ x = (if less then 60 else 62) ∧ rest = digW n := by
  have hk : w.data.toList[what.data.toList.length]? = some x := by rw [h.all, List.getElem?_append_right (Nat.le_refl _)]; simp
  have hn : ∀ (j : Nat) b, j < what.data.toList.length → w.data.toList[j]? = some b → isS b = false := fun j b hj hb => by
    rw [h.all, List.getElem?_append_left hj] at hb
    exact h.free b (List.mem_of_getElem? hb)
  have h1 : a ≠ .follows := by
    rintro rfl
    have hw := ha.2
    have h2 := h.sign
    have : x ∈ w.data.toList := List.mem_of_getElem? hk
    rw [hw] at this
    simp only [leafT, followsW, List.mem_cons, List.not_mem_nil, or_false] at this
    rcases this with rfl | rfl | rfl | rfl | rfl | rfl | rfl <;> revert h2 <;> decide
  have h2 : a ≠ .done := by
    rintro rfl
    have hw := ha.2
    have h2 := h.sign
    have : x ∈ w.data.toList := List.mem_of_getElem? hk
    rw [hw] at this
    simp only [leafT, doneW, List.mem_cons, List.not_mem_nil, or_false] at this
    rcases this with rfl | rfl | rfl | rfl <;> revert h2 <;> decide
  obtain ⟨p, c, r, e1, e2, e3, e4⟩ := leaf_cut h1 h2
  rw [← ha.2] at e1
  obtain ⟨f1, f2, f3⟩ := first_one e1 e2 e3 hk h.sign hn
  rw [h.all] at f1 f3
  simp only [List.take_left'] at f1
  have f1' : what.data.toList = p := by simpa using f1
  have f3' : rest.data.toList = r := by
    rw [List.drop_append, List.drop_of_length_le (by omega), Nat.add_sub_cancel_left] at f3
    simpa using f3
  rcases e4 with ⟨y, rfl, rfl, rfl, rfl⟩ | ⟨y, rfl, rfl, rfl, rfl⟩ | ⟨k, less, n, rfl, rfl, rfl, rfl⟩
  · exact Or.inl ⟨y, rfl, ba_ext f1', f2, ba_ext f3'⟩
  · exact Or.inr (Or.inl ⟨y, rfl, ba_ext f1', f2, ba_ext f3'⟩)
  · exact Or.inr (Or.inr ⟨k, less, n, rfl, ba_ext f1', f2, ba_ext (by rw [f3']; simp [digW])⟩)
theorem no_sign {w : ByteArray} (hn : ∀ (j : Nat) b, w.data.toList[j]? = some b → isS b = false) (h1 : w ≠ followsW) (h2 : w ≠ doneW) (a : Leaf) : ¬ IsLeaf w a := fun ha => by
  have ha1 : a ≠ .follows := by rintro rfl; exact h1 ha.2
  have ha2 : a ≠ .done := by rintro rfl; exact h2 ha.2
  obtain ⟨p, c, r, e1, e2, e3, _⟩ := leaf_cut ha1 ha2
  rw [← ha.2] at e1
  have : w.data.toList[p.length]? = some c := by rw [e1, List.getElem?_append_right (Nat.le_refl _)]; simp
  rw [hn _ _ this] at e3
  cases e3
/-- What leaf hands back. -/
def LeafPost (s : ByteArray) (e : Ending) : Prop := (∃ a, IsLeaf s a ∧ e = .returned (.tuple #[leafV a, .bool true])) ∨ ((∀ a, ¬ IsLeaf s a) ∧ ∃ v, e = .returned (.tuple #[v, .bool false]))
end Go.Proofs.YtpgbgeofhcpocaaGreatDoor
