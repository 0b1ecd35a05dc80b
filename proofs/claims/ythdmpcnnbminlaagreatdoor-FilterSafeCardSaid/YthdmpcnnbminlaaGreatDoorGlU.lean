/- FilterSafe: plain. -/
import Derived.Test.YthdmpcnnbminlaaGreatDoorGlH
namespace Go.Proofs.YthdmpcnnbminlaaGreatDoor
open Ct (It St it0 st0 atP takesB catB stepSt rowOf uptoP ofN rowStep)
open Ru (Fz fzA fzX Nd holdsR)
set_option linter.unusedVariables false
theorem passL_at {F : ByteArray → Nat} {l : List ByteArray} {k : Nat} {x : ByteArray} (hn : l.Nodup) (h : l[k]? = some x) : (passL F l)[(passL F (l.take k)).length]? = some x ↔ F x = 0 := by
 have hk := (List.getElem?_eq_some_iff.1 h)
 obtain ⟨hkl, hkx⟩ := hk
 have hd : l.drop k = x :: l.drop (k + 1) := by rw [List.drop_eq_getElem_cons hkl, hkx]
 have e : passL F l = passL F (l.take k) ++ passL F (x :: l.drop (k + 1)) := by
  unfold passL
  rw [← List.filter_append, ← hd, List.take_append_drop]
 rw [e, List.getElem?_append_right (Nat.le_refl _), Nat.sub_self]
 unfold passL
 by_cases h0 : F x = 0
 ·rw [List.filter_cons_of_pos (by simp [h0])]
  exact ⟨fun _ => h0, fun _ => rfl⟩
 ·rw [List.filter_cons_of_neg (by simp [h0])]
  refine ⟨fun hh => ?_, fun hh => absurd hh h0⟩
  exfalso
  have hm := (List.mem_filter.1 (List.mem_of_getElem? hh)).1
  have hn2 : (l.drop k).Nodup := List.Nodup.sublist (List.drop_sublist _ _) hn
  rw [hd, List.nodup_cons] at hn2
  exact hn2.1 hm
theorem whyP_zero {z : Fz} {hid : Bool} {crowd span : Int} {ok : Bool} (hl : z.listed = true) (hs : 0 ≤ z.stock) : decide (whyP z hid crowd span ok = 0) = (decide (0 < z.stock) && (!hid && (!z.done && (ok && (decide (crowd ≤ z.fans) || decide (z.age ≤ span)))))) := by
 have e1 : decide (0 < z.stock) = !decide (z.stock = 0) := by
  rw [Bool.eq_iff_iff]; simp <;> omega
 have e2 : (decide (crowd ≤ z.fans) || decide (z.age ≤ span)) = !(decide (z.fans < crowd) && decide (span < z.age)) := by
  rw [Bool.eq_iff_iff]; simp <;> omega
 rw [whyP_fst, e1, e2]
 unfold rowL
 rw [hl]
 generalize decide (z.stock = 0) = a1
 generalize z.done = a3
 generalize (decide (z.fans < crowd) && decide (span < z.age)) = a4
 cases a1 <;> cases hid <;> cases a3 <;> cases a4 <;> cases ok <;> decide
end Go.Proofs.YthdmpcnnbminlaaGreatDoor
