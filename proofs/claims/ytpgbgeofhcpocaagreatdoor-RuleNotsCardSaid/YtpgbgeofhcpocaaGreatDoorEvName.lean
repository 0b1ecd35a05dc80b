/- Name, of the program and of the document. -/
import Derived.Test.YtpgbgeofhcpocaaGreatDoorSlices
import Derived.Test.YtpgbgeofhcpocaaGreatDoorText
import Derived.Test.YtpgbgeofhcpocaaGreatDoorMapOps
import Derived.Test.YtpgbgeofhcpocaaGreatDoorProg
import Derived.Deep.QuietTactic
import Derived.BigQuiet
import Derived.RegionTactic
import Derived.WalkLawsBesides
import Derived.Outline
namespace Go.Proofs.YtpgbgeofhcpocaaGreatDoor
open Go.RowKit Go.Maps
set_option linter.unusedVariables false

theorem ret_bool {a b : Bool} (h : a = b) : Ending.returned (.bool a) = .returned (.bool b) := by rw [h]

def okN (n : Int) : Prop := (97 ≤ n ∧ n ≤ 122) ∨ (48 ≤ n ∧ n ≤ 57) ∨ n = 45
instance (n : Int) : Decidable (okN n) := by unfold okN; infer_instance
/-- Is a text a name? -/
def nameB (s : ByteArray) : Bool := decide (1 ≤ s.size ∧ s.size ≤ 24) && s.data.toList.all fun b => decide (okN b.toNat)
theorem name_all {s : ByteArray} (h1 : 1 ≤ s.size) (h2 : s.size ≤ 24) (h : ∀ (j : Nat) (hj : j < s.size), okN (s[j].toNat : Int)) : nameB s = true := by
  unfold nameB
  rw [decide_eq_true ⟨h1, h2⟩, Bool.true_and, List.all_eq_true]
  intro b hb
  obtain ⟨j, hj, rfl⟩ := List.mem_iff_getElem.1 hb
  exact decide_eq_true (h j (by simpa using hj))
theorem name_no {s : ByteArray} {j : Nat} (hj : j < s.size) (h : ¬ okN (s[j].toNat : Int)) : nameB s = false := by
  unfold nameB
  have : (s.data.toList.all fun b => decide (okN b.toNat)) = false := by
    rw [List.all_eq_false]
    exact ⟨s[j], List.getElem_mem (l := s.data.toList) (by simpa using hj), by simpa using h⟩
  rw [this, Bool.and_false]
theorem name_len {s : ByteArray} (h : ¬ (1 ≤ s.size ∧ s.size ≤ 24)) : nameB s = false := by
  unfold nameB; rw [decide_eq_false h]; rfl

set_option maxHeartbeats 1000000 in
set_option maxRecDepth 100000 in
theorem name_any (s : ByteArray) (w : World) (hs : s.size ≤ maxLen) :
    Calls Tryz.prog 59 #[.string s] w fun e w' => e = .returned (.bool (nameB s)) ∧ w = w' := by
  unfold maxLen at hs
  by_cases h1 : 1 ≤ s.size
  · by_cases h2 : s.size ≤ 24
    · have t1 : decide ((s.size : Int) < 1) = false := decide_eq_false (by omega)
      have t2 : decide ((24 : Int) < (s.size : Int)) = false := decide_eq_false (by omega)
      go_enter Tryz.func59, Tryz.ntmps59
      go_wp2
      go_loop [15] (fun i => ∃ k : Nat, k ≤ s.size ∧ i = .int .i64 k ∧ Hid (∀ (j : Nat) (hj : j < s.size), j < k → okN (s[j].toNat : Int))) (fun i => s.size - (intOf i).toNat)
      case atStart => exact ⟨0, Nat.zero_le _, rfl, Lib.hid (fun j _ h => by omega)⟩
      case round =>
        obtain ⟨k, hk, rfl, hok⟩ := hrel
        by_cases hlt : k < s.size
        · have HADD : Hid (okN (s[k].toNat : Int) → ∀ (j : Nat) (hj : j < s.size), j < k + 1 → okN (s[j].toNat : Int)) := Lib.hid (fun h j hj h2 => by
            by_cases e : j = k
            · subst e; exact h
            · exact hok.out j hj (by omega))
          have HNO : Hid (¬ okN (s[k].toNat : Int) → nameB s = false) := Lib.hid (fun h => name_no hlt h)
          go_wp2
          all_goals first
            | (go_ret; exact ⟨ret_bool (HNO.out (by unfold okN; first | omega | (simp_all <;> omega))).symm, rfl⟩)
            | (go_round
               case rel => exact ⟨k + 1, by omega, by go_num, Lib.hid (HADD.out (by unfold okN; first | omega | (simp_all <;> omega)))⟩
               case measure => simp [intOf]; omega)
        · have HF : Hid (nameB s = true) := Lib.hid (name_all h1 h2 (fun j hj => hok.out j hj (by omega)))
          go_wp2
          go_ret
          exact ⟨ret_bool HF.out.symm, rfl⟩
    · have t1 : decide ((s.size : Int) < 1) = false := decide_eq_false (by omega)
      have t2 : decide ((24 : Int) < (s.size : Int)) = true := decide_eq_true (by omega)
      have HF := Lib.hid (name_len (s := s) (fun h => h2 h.2))
      go_enter Tryz.func59, Tryz.ntmps59
      go_wp2
      go_ret
      exact ⟨ret_bool HF.out.symm, rfl⟩
  · have t1 : decide ((s.size : Int) < 1) = true := decide_eq_true (by omega)
    have HF := Lib.hid (name_len (s := s) (fun h => h1 h.1))
    go_enter Tryz.func59, Tryz.ntmps59
    go_wp2
    go_ret
    exact ⟨ret_bool HF.out.symm, rfl⟩

end Go.Proofs.YtpgbgeofhcpocaaGreatDoor
