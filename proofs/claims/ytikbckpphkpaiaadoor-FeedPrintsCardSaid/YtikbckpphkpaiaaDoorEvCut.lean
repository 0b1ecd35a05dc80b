/- strings.Cut at ';', strings.Split at ',': contracts over a world in which internal/bytealg.MaxLen holds an int; parts of a text. -/
import Derived.Test.YtikbckpphkpaiaaDoorEvName2
import Derived.Test.YtikbckpphkpaiaaDoorLay
namespace Go.Proofs.YtikbckpphkpaiaaDoor
open Go.Shelf Go.RowKit Go.Lib Go.Maps
set_option linter.unusedVariables false

/-- internal/bytealg.MaxLen holds an int. -/
def GlobAt (w : World) : Prop := 0 < w.heap.size ∧ ∃ m, w.cell? ⟨0, 0, none⟩ = some (.int .i64 m)
theorem GlobAt.keep {w w' : World} (h : GlobAt w) {B : Nat} (hb : Below B w w') (hB : w.heap.size ≤ B) : GlobAt w' := by
  obtain ⟨h0, m, hm⟩ := h
  exact ⟨Nat.lt_of_lt_of_le h0 hb.size, m, by rw [← hm]; exact hb.cell (p := ⟨0, 0, none⟩) (Nat.lt_of_lt_of_le h0 hB)⟩
theorem GlobAt.alloc {w : World} (h : GlobAt w) (o : Obj) : GlobAt (w.alloc o) := h.keep ((Below.refl w.heap.size w).alloc (Nat.le_refl _) o) (Nat.le_refl _)
theorem GlobAt.drewN {w : World} (h : GlobAt w) (n : Nat) : GlobAt (w.drewN n) := h
theorem GlobAt.drew {w : World} (h : GlobAt w) : GlobAt w.drew := h
theorem GlobAt.kept {w w' : World} {S : Nat → Prop} (h : GlobAt w) (k : Kept S w w') (hS : ∀ i, i ≤ 0 → ¬ S i) : GlobAt w' := by
  obtain ⟨h0, m, hm⟩ := h
  exact ⟨Nat.lt_of_lt_of_le h0 k.size, m, by rw [← hm]; exact k.cell (p := ⟨0, 0, none⟩) h0 (hS _ (Nat.le_refl _))⟩

/-- Ahead of, and behind, the first ';'. -/
def headP (s : ByteArray) : ByteArray := ⟨(Lib.cut s.data.toList [59]).1.toArray⟩
def restP (s : ByteArray) : ByteArray := ⟨(Lib.cut s.data.toList [59]).2.1.toArray⟩
def cutsP (s : ByteArray) : Bool := (Lib.cut s.data.toList [59]).2.2

theorem cut_any (s : ByteArray) (w : World) (hs : s.size < 4294967281) (hg : GlobAt w) :
    Calls Tryd.prog 39 #[.string s, .string ⟨#[59]⟩] w fun e w' => e = .returned (.tuple #[.string (headP s), .string (restP s), .bool (cutsP s)]) ∧ ∃ n, w' = w.drewN n := by
  obtain ⟨_, m, hm⟩ := hg
  exact Any.strings_Cut { Tryd.laysCut with } s ⟨#[59]⟩ m w hs hm

/-- What stands between commas. -/
def parts (s : ByteArray) : List ByteArray := splitB ⟨#[44]⟩ 0 (countB s ⟨#[44]⟩) s
theorem parts_len (s : ByteArray) : (parts s).length = countB s ⟨#[44]⟩ + 1 := splitB_all ⟨#[44]⟩ (by decide) 0 _ s rfl
theorem split_any (s : ByteArray) (w : World) (hs : s.size < 4294967281) (hg : GlobAt w) :
    Calls Tryd.prog 88 #[.string s, .string ⟨#[44]⟩] w fun e w' => e = .returned (.slice (some ⟨w.heap.size, 0, none⟩) (parts s).length (parts s).length) ∧ w' = w.alloc (.cells ((parts s).map Value.string).toArray 9) := by
  obtain ⟨_, m, hm⟩ := hg
  rw [parts_len]
  exact Any.strings_Split { Tryd.laysSplit with } Tryd.laysSplit.i9 s ⟨#[44]⟩ m w hs hm (by decide)

end Go.Proofs.YtikbckpphkpaiaaDoor
