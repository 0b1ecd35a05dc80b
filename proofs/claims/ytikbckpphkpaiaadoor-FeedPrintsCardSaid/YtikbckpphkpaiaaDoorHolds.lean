/- slices.Contains of strings; the closures of Names, ByMaker and ByTag. -/
import Derived.Test.YtikbckpphkpaiaaDoorNamesP
import Derived.Deep.RegionHeld3
namespace Go.Proofs.YtikbckpphkpaiaaDoor
open Go.Shelf Go.RowKit Go.Maps
set_option linter.unusedVariables false

theorem beq_list (a b : ByteArray) : (a.toList == b.toList) = true ↔ a = b := by
  rw [beq_iff_eq, Lib.toList_data, Lib.toList_data]
  constructor
  · intro h
    exact ba_eq h
  · rintro rfl; rfl
theorem str_eqB (x y : ByteArray) : (x.toList == y.toList) = decide (x = y) := by
  by_cases h : x = y
  · subst h; simp
  · rw [Bool.eq_false_iff.2 (fun e => h ((beq_list x y).1 e))]; simp [h]

/-- Is it among them? -/
def memB (x : ByteArray) (l : List ByteArray) : Bool := l.any fun y => decide (y = x)
theorem memB_iff (x : ByteArray) (l : List ByteArray) : memB x l = true ↔ x ∈ l := by
  unfold memB
  rw [List.any_eq_true]
  constructor
  · rintro ⟨y, hy, h⟩
    obtain rfl := of_decide_eq_true h
    exact hy
  · intro h; exact ⟨x, h, by simp⟩



theorem names1_any (x : It) (w : World) : Calls Tryd.prog 41 #[.agg #[.string x.name, .string x.maker, .string x.tags, .int .i64 x.stock, .int .i64 x.price, .int .i64 x.born, .bool x.listed]] w fun e w' => e = .returned (.bool true) ∧ Below w.heap.size w w' := by
  go_enter Tryd.func41, Tryd.ntmps41
  go_wp2_with fail
  go_ret
  exact ⟨rfl, (Below.refl _ _).alloc (Nat.le_refl _) _⟩


/-- The tags of a thing. -/
def tagsOf (t : ByteArray) : List ByteArray := evTags (⟨#[59]⟩ ++ t)
theorem semi_size (t : ByteArray) : ((⟨#[59]⟩ : ByteArray) ++ t).size = t.size + 1 := by
  rw [ByteArray.size_append]
  show 1 + t.size = t.size + 1
  omega
theorem tags_few (t : ByteArray) : (tagsOf t).length ≤ t.size + 2 := by
  unfold tagsOf evTags
  split
  · simp
  · have h1 := Lib.splitB_length_le ⟨#[44]⟩ 0 (Lib.countB (restP (⟨#[59]⟩ ++ t)) ⟨#[44]⟩) (restP (⟨#[59]⟩ ++ t))
    have h2 := cut_le (⟨#[59]⟩ ++ t)
    rw [semi_size] at h2
    have h3 : Lib.countB (restP (⟨#[59]⟩ ++ t)) ⟨#[44]⟩ ≤ (restP (⟨#[59]⟩ ++ t)).size := Lib.countB_le ⟨#[44]⟩ (by decide) _ _ (Nat.le_refl _)
    unfold parts
    omega


end Go.Proofs.YtikbckpphkpaiaaDoor
