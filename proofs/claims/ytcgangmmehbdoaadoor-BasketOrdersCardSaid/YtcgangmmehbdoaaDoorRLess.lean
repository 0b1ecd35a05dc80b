/- The document's In. -/
import Derived.Test.YtcgangmmehbdoaaDoorRTags
namespace Go.Proofs.YtcgangmmehbdoaaDoor
open Go.Shelf Go.RowKit Go.Maps
set_option linter.unusedVariables false

set_option maxHeartbeats 1000000 in
set_option maxRecDepth 100000 in
theorem in_any (n lo hi : Int) (w : World) :
    Calls Tryd.prog 48 #[.int .i64 n, .int .i64 lo, .int .i64 hi] w fun e w' => e = .returned (.bool (decide (lo ≤ n ∧ n ≤ hi))) ∧ w = w' := by
  by_cases h1 : lo ≤ n
  · by_cases h2 : n ≤ hi
    · have HD : Hid (decide (lo ≤ n ∧ n ≤ hi) = true) := Lib.hid (decide_eq_true ⟨h1, h2⟩)
      go_enter Tryd.func48, Tryd.ntmps48
      go_wp2_with fail
      go_ret
      exact ⟨ret_bool (by first | (rw [HD.out]; done) | rfl | simp_all), rfl⟩
    · have HD : Hid (decide (lo ≤ n ∧ n ≤ hi) = false) := Lib.hid (decide_eq_false (fun h => h2 h.2))
      have d2 : decide (n ≤ hi) = false := decide_eq_false h2
      go_enter Tryd.func48, Tryd.ntmps48
      go_wp2_with fail
      go_ret
      exact ⟨ret_bool (by first | (rw [HD.out]; done) | rfl | simp_all), rfl⟩
  · have HD : Hid (decide (lo ≤ n ∧ n ≤ hi) = false) := Lib.hid (decide_eq_false (fun h => h1 h.1))
    have d1 : decide (lo ≤ n) = false := decide_eq_false h1
    go_enter Tryd.func48, Tryd.ntmps48
    go_wp2_with fail
    go_ret
    exact ⟨ret_bool (by first | (rw [HD.out]; done) | rfl | simp_all), rfl⟩

end Go.Proofs.YtcgangmmehbdoaaDoor
