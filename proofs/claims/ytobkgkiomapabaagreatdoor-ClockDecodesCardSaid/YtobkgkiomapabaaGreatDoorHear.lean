/- What name, Hear, Heard and Active do. -/
import Derived.Test.YtobkgkiomapabaaGreatDoorRise
namespace Go.Proofs.YtobkgkiomapabaaGreatDoor
open Go.RowKit Go.Maps Go.Lib Go.Shelf

/-- A rune that no name holds. -/
def badRune (r : Nat) : Bool := !decide ((48 ≤ r ∧ r ≤ 57) ∨ (97 ≤ r ∧ r ≤ 122) ∨ r = 45)
theorem bad_t {r : Nat} (h : ¬ ((48 ≤ r ∧ r ≤ 57) ∨ (97 ≤ r ∧ r ≤ 122) ∨ r = 45)) : badRune r = true := by unfold badRune; rw [decide_eq_false h]; rfl
theorem bad_f {r : Nat} (h : (48 ≤ r ∧ r ≤ 57) ∨ (97 ≤ r ∧ r ≤ 122) ∨ r = 45) : badRune r = false := by unfold badRune; rw [decide_eq_true h]; rfl
/-- Is a text a source's name? -/
def nameB (s : ByteArray) : Bool := decide (1 ≤ s.size) && decide (s.size ≤ 24) && decide (Lib.idxFunc badRune true s < 0)

theorem bad_pays (w : World) : PredAt Tryz.prog 38 #[] encR badRune w := by
  intro W r _
  unfold FnGives
  rcases (show r < 45 ∨ r = 45 ∨ (46 ≤ r ∧ r ≤ 47) ∨ (48 ≤ r ∧ r ≤ 57) ∨ (58 ≤ r ∧ r ≤ 96) ∨ (97 ≤ r ∧ r ≤ 122) ∨ 123 ≤ r from by omega) with h | h | h | h | h | h | h
  all_goals
    first | rw [bad_t (by omega)] | rw [bad_f (by omega)]
    go_enter Tryz.func38, Tryz.ntmps38
    go_wp2
    all_goals first | (exfalso; omega) | (go_ret; exact ⟨rfl, 0, rfl⟩) | (go_ret; refine ⟨?_, 0, rfl⟩; simp; omega)

theorem name_any (s : ByteArray) (w : World) : Calls Tryz.prog 16 #[.string s] w fun e w' => e = .returned (.bool (nameB s)) ∧ Below w.heap.size w w' := by
  by_cases h1 : 1 ≤ s.size
  · by_cases h2 : s.size ≤ 24
    · have hn : nameB s = decide (Lib.idxFunc badRune true s < 0) := by simp [nameB, h1, h2]
      rw [hn]
      clear hn
      go_enter Tryz.func16, Tryz.ntmps16
      go_wp2_with fail
      refine (Tryz.strings_IndexFunc 38 #[] (enters_of Tryz.func38 (by kernel_rfl) rfl) badRune s w (bad_pays w)).mono ?_
      rintro e w1 ⟨rfl, hb⟩
      go_wp2
      go_ret
      exact ⟨rfl, hb⟩
    · have hn : nameB s = false := by simp [nameB, h2]
      rw [hn]
      clear hn
      go_enter Tryz.func16, Tryz.ntmps16
      go_wp2_with fail
      go_ret
      exact ⟨rfl, Below.refl _ _⟩
  · have hn : nameB s = false := by simp [nameB, h1]
    rw [hn]
    clear hn
    go_enter Tryz.func16, Tryz.ntmps16
    go_wp2_with fail
    go_ret
    exact ⟨rfl, Below.refl _ _⟩

end Go.Proofs.YtobkgkiomapabaaGreatDoor
