/- event.Tags. -/
import Derived.Test.YtikbckpphkpaiaaDoorEvCut
namespace Go.Proofs.YtikbckpphkpaiaaDoor
open Go.Shelf Go.RowKit Go.Lib Go.Maps
set_option linter.unusedVariables false

theorem emp_iff (t : ByteArray) : t.toList.isEmpty = decide (t = ⟨#[]⟩) := by
  rw [Lib.toList_data]
  by_cases h : t = ⟨#[]⟩
  · subst h; rfl
  · have : t.data.toList ≠ [] := fun e => h (by cases t; simpa using e)
    rw [List.isEmpty_eq_false_iff.2 this]
    simp [h]

/-- A listing's tags. -/
def evTags (s : ByteArray) : List ByteArray := if restP s = ⟨#[]⟩ then [] else parts (restP s)
theorem cut_le (s : ByteArray) : (restP s).size ≤ s.size := by
  show (Lib.cut s.data.toList [59]).2.1.toArray.size ≤ s.data.size
  unfold Lib.cut
  split <;> simp

set_option maxHeartbeats 1000000 in
set_option maxRecDepth 100000 in
theorem evtags_any (s : ByteArray) (w : World) (hs : s.size < 4294967281) (hg : GlobAt w) :
    Calls Tryd.prog 69 #[.string s] w fun e w' => ∃ A c, e = .returned (.slice A (evTags s).length c) ∧ RowIn w' w'.heap.size 1 A (evTags s).length ((evTags s).map .string) ∧ (A = none → c = 0) ∧ Below w.heap.size w w' := by
  have HC := Lib.hid (cut_any s w hs hg)
  go_enter Tryd.func69, Tryd.ntmps69
  go_wp2_with fail
  refine HC.out.mono ?_
  rintro e w1 ⟨rfl, q, rfl⟩
  have hle := cut_le s
  by_cases hr : restP s = ⟨#[]⟩
  · have hb : (restP s).toList.isEmpty = true := by rw [emp_iff]; simp [hr]
    have HE : Hid (evTags s = []) := Lib.hid (by unfold evTags; rw [if_pos hr])
    clear hr HC
    go_wp2_with fail
    go_ret
    rw [HE.out]
    exact ⟨none, 0, rfl, RowIn.nil _ _ _ _, fun _ => rfl, ⟨rfl, rfl, rfl, Nat.le_refl _, fun _ _ => rfl⟩⟩
  · have hb : (restP s).toList.isEmpty = false := by rw [emp_iff]; simp [hr]
    have HE : Hid (evTags s = parts (restP s)) := Lib.hid (by unfold evTags; rw [if_neg hr])
    have HS := Lib.hid (split_any (restP s) (w.drewN q) (by omega) (hg.drewN q))
    clear hr HC
    go_wp2_with fail
    refine HS.out.mono ?_
    rintro e w2 ⟨rfl, hw2⟩
    clear HS
    go_wp2_with fail
    go_ret
    rw [HE.out]
    subst hw2
    refine ⟨_, _, rfl, ⟨by simp, Or.inr ⟨_, 0, rfl, by simp, fun j u hu => ?_⟩⟩, fun h => (by cases h), ?_⟩
    rotate_left
    · have h1 : Below (w.drewN q).heap.size (w.drewN q) ((w.drewN q).alloc (.cells ((parts (restP s)).map Value.string).toArray 9)) := (Below.refl _ _).alloc (Nat.le_refl _) _
      exact ⟨h1.os, h1.tape, h1.output, h1.size, h1.block⟩
    rw [Nat.zero_add]
    have := (Blk.new (w.drewN q) 9 ((parts (restP s)).map Value.string).toArray).cell j
    rw [List.getElem?_toArray, hu] at this
    exact this

end Go.Proofs.YtikbckpphkpaiaaDoor
