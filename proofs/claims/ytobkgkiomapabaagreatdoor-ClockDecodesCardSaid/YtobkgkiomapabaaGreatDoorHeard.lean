/- What Heard and Active tell. -/
import Derived.Test.YtobkgkiomapabaaGreatDoorRises
import Derived.Test.YtobkgkiomapabaaGreatDoorText
namespace Go.Proofs.YtobkgkiomapabaaGreatDoor
open Go.RowKit Go.Maps Go.Lib Go.Shelf
set_option linter.unusedVariables false

def heardOf (c : Ck) (s : List UInt8) : Int := match c.src s with | some x => x.1 | none => -1
def activeOf (c : Ck) (s : List UInt8) : Bool := match c.src s with | some x => act c x | none => false

theorem src_is (f : List UInt8 → Option (Int × Int)) (k : List UInt8) : (srcM f (.string k)).isSome = (f k).isSome := by
  simp only [srcM]
  cases f k <;> rfl

set_option maxRecDepth 100000 in
theorem heard_any (cb mb n : Nat) (c : Ck) (s : ByteArray) (w : World) (h : ClockAt w cb mb n c) (hsz : s.size ≤ maxLen) :
    Calls Tryz.prog 25 #[.pointer (some ⟨cb, 0, none⟩), .string s] w fun e w' => e = .returned (.int .i64 (heardOf c s.data.toList)) ∧ Below w.heap.size w w' := by
  have k4 : w.cell? ⟨cb, 4, none⟩ = some (.map (some mb)) := h.blk.cell 4
  have hml := h.map.lt
  have hcl := h.blk.lt
  have hgd := src_getD c.src s.data.toList
  have his := src_is c.src s.data.toList
  have hmap := h.map
  unfold heardOf
  cases hc : c.src s.data.toList with
  | none =>
    rw [hc] at hgd his
    have HGD := Lib.hid hgd
    have HIS := Lib.hid his
    clear hgd his hc
    go_enter Tryz.func25, Tryz.ntmps25
    go_wp2_with (first
      | (at_lookup; refine wpList_look_okM _ rfl _ _ 47 rfl 9 52 (string_keyed Tryz.underlying9) Tryz.underlying47 okSrc _ (zeroSrc _) rfl mb n _ rfl hmap _ _ rfl (WideMaps.keyOf_string_mk Tryz.underlying9 hsz) _ HGD.out _ HIS.out ?_)
      | fail)
    go_ret
    exact ⟨rfl, (Below.refl _ _).alloc (Nat.le_refl _) _⟩
  | some x =>
    rw [hc] at hgd his
    obtain ⟨x1, x2⟩ := x
    have HGD := Lib.hid hgd
    have HIS := Lib.hid his
    clear hgd his hc
    go_enter Tryz.func25, Tryz.ntmps25
    go_wp2_with (first
      | (at_lookup; refine wpList_look_okM _ rfl _ _ 47 rfl 9 52 (string_keyed Tryz.underlying9) Tryz.underlying47 okSrc _ (zeroSrc _) rfl mb n _ rfl hmap _ _ rfl (WideMaps.keyOf_string_mk Tryz.underlying9 hsz) _ HGD.out _ HIS.out ?_)
      | fail)
    go_ret
    exact ⟨rfl, (Below.refl _ _).alloc (Nat.le_refl _) _⟩

set_option maxRecDepth 100000 in
theorem active_says (cb mb n : Nat) (c : Ck) (s : ByteArray) (w : World) (h : ClockAt w cb mb n c) (hsz : s.size ≤ maxLen) :
    Calls Tryz.prog 26 #[.pointer (some ⟨cb, 0, none⟩), .string s] w fun e w' => e = .returned (.bool (activeOf c s.data.toList)) ∧ Below w.heap.size w w' := by
  have k4 : w.cell? ⟨cb, 4, none⟩ = some (.map (some mb)) := h.blk.cell 4
  have hml := h.map.lt
  have hcl := h.blk.lt
  have hgd := src_getD c.src s.data.toList
  have his := src_is c.src s.data.toList
  have hmap := h.map
  unfold activeOf
  cases hc : c.src s.data.toList with
  | none =>
    rw [hc] at hgd his
    have HGD := Lib.hid hgd
    have HIS := Lib.hid his
    clear hgd his hc
    go_enter Tryz.func26, Tryz.ntmps26
    go_wp2_with (first
      | (at_lookup; refine wpList_look_okM _ rfl _ _ 47 rfl 9 52 (string_keyed Tryz.underlying9) Tryz.underlying47 okSrc _ (zeroSrc _) rfl mb n _ rfl hmap _ _ rfl (WideMaps.keyOf_string_mk Tryz.underlying9 hsz) _ HGD.out _ HIS.out ?_)
      | fail)
    go_ret
    exact ⟨rfl, (Below.refl _ _).alloc (Nat.le_refl _) _⟩
  | some x =>
    have hb := h.src_ok hc
    rw [hc] at hgd his
    obtain ⟨x1, x2⟩ := x
    dsimp only at hb
    have HGD := Lib.hid hgd
    have HIS := Lib.hid his
    clear hgd his hc
    go_enter Tryz.func26, Tryz.ntmps26
    go_wp2_with (first
      | (at_lookup; refine wpList_look_okM _ rfl _ _ 47 rfl 9 52 (string_keyed Tryz.underlying9) Tryz.underlying47 okSrc _ (zeroSrc _) rfl mb n _ rfl hmap _ _ rfl (WideMaps.keyOf_string_mk Tryz.underlying9 hsz) _ HGD.out _ HIS.out ?_)
      | fail)
    refine (active_any cb mb c (x1, x2) _ (h.blk.alloc _) h.ok hb.2.2.1 hb.2.2.2).mono ?_
    rintro e w1 ⟨rfl, hb1⟩
    go_wp2_with fail
    go_ret
    exact ⟨rfl, ((Below.refl _ _).alloc (Nat.le_refl _) _).trans (hb1.mono (by simp))⟩

/-- The slice at a holds the numbers l, below block B. -/
def IntsAt (w : World) (B : Nat) (a : Option Addr) (l : List Int) : Prop :=
  ∀ i x, l[i]? = some x → (∃ b off, a = some ⟨b, off, none⟩ ∧ b < B ∧ w.cell? ⟨b, off + i, none⟩ = some (.int .i64 x)) ∧ (Lit.int .i64 x).wf = true

theorem IntsAt.below {w w' : World} {B : Nat} {a : Option Addr} {l : List Int} (h : IntsAt w B a l) (hb : Below B w w') : IntsAt w' B a l := by
  intro i x hx
  obtain ⟨⟨b, off, ha, hlt, h0⟩, hw⟩ := h i x hx
  exact ⟨⟨b, off, ha, hlt, (hb.cell (p := ⟨b, _, none⟩) hlt).trans h0⟩, hw⟩

end Go.Proofs.YtobkgkiomapabaaGreatDoor
