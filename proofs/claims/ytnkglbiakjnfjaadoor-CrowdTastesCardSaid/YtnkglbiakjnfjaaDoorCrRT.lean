/- The document's Half, Weight, Less of counts. -/
import Derived.Test.YtnkglbiakjnfjaaDoorCrSums
namespace Go.Proofs.YtnkglbiakjnfjaaDoor
open Go.Shelf Go.RowKit Go.Maps
set_option linter.unusedVariables false

set_option maxHeartbeats 1000000 in
set_option maxRecDepth 100000 in
theorem rhalf_any (h : Int) (w : World) : Calls Tryd.prog 17 #[.int .i64 h] w fun e w' => e = .returned (.int .i64 (halfP h)) ∧ w = w' := by
  by_cases q1 : h < 1
  · have HH : Hid (halfP h = 1) := Lib.hid (by unfold halfP; omega)
    go_enter Tryd.func17, Tryd.ntmps17
    go_wp2_with fail
    go_ret
    exact ⟨ret_int HH.out.symm, rfl⟩
  have d1 : decide (h < 1) = false := decide_eq_false q1
  by_cases q2 : 1099511627776 < h
  · have HH : Hid (halfP h = 1099511627776) := Lib.hid (by unfold halfP; omega)
    go_enter Tryd.func17, Tryd.ntmps17
    go_wp2_with fail
    go_ret
    exact ⟨ret_int HH.out.symm, rfl⟩
  have d2 : decide (1099511627776 < h) = false := decide_eq_false q2
  have HH : Hid (halfP h = h) := Lib.hid (by unfold halfP; omega)
  go_enter Tryd.func17, Tryd.ntmps17
  go_wp2_with fail
  go_ret
  exact ⟨ret_int HH.out.symm, rfl⟩

theorem halve (k : Nat) : (1048576 / 2 ^ k : Int) / 2 = 1048576 / 2 ^ (k + 1) := by
  rw [Int.ediv_ediv_of_nonneg (Int.le_of_lt (Int.pow_pos (by omega))), Int.pow_succ]
theorem halve_bd (k : Nat) : 0 ≤ (1048576 / 2 ^ k : Int) ∧ (1048576 / 2 ^ k : Int) ≤ 1048576 :=
  ⟨Int.ediv_nonneg (by omega) (Int.le_of_lt (Int.pow_pos (by omega))), Int.ediv_le_self _ (by omega)⟩

set_option maxHeartbeats 2000000 in
set_option maxRecDepth 100000 in
theorem rweight_any (age half : Int) (w : World) (h1 : 1 ≤ half) (h2 : half ≤ 1099511627776) (h3 : -8796093022208 ≤ age) (h4 : age ≤ 8796093022208) :
    Calls Tryd.prog 50 #[.int .i64 age, .int .i64 half] w fun e w' => e = .returned (.int .i64 (wgtP age half)) ∧ w = w' := by
  by_cases ha : age < 0
  · have HW : Hid (wgtP age half = 0) := Lib.hid (by unfold wgtP; rw [if_pos ha])
    go_enter Tryd.func50, Tryd.ntmps50
    go_wp2_with fail
    go_ret
    exact ⟨ret_int HW.out.symm, rfl⟩
  obtain ⟨q, hq⟩ : ∃ q, age / half = q := ⟨_, rfl⟩
  have hq0 : 0 ≤ q := by rw [← hq]; exact Int.ediv_nonneg (by omega) (by omega)
  have hqb : q ≤ 8796093022208 := by rw [← hq]; exact Int.le_trans (Int.ediv_le_self _ (by omega)) h4
  have HW : Hid (wgtP age half = if 20 < q then 0 else 1048576 / 2 ^ q.toNat) := Lib.hid (by unfold wgtP; rw [if_neg ha, hq])
  have ha0 : 0 ≤ age := by omega
  have hqt : age.tdiv half = q := by rw [Int.tdiv_eq_ediv_of_nonneg ha0]; exact hq
  have da : decide (age < 0) = false := decide_eq_false ha
  by_cases h20 : 20 < q
  · have HW2 : Hid (wgtP age half = 0) := Lib.hid (by rw [HW.out, if_pos h20])
    go_enter Tryd.func50, Tryd.ntmps50
    go_wp2_with fail
    go_ret
    exact ⟨ret_int HW2.out.symm, rfl⟩
  have HW2 : Hid (wgtP age half = 1048576 / 2 ^ q.toNat) := Lib.hid (by rw [HW.out, if_neg h20])
  have d20 : decide (20 < q) = false := decide_eq_false h20
  obtain ⟨n, hn⟩ : ∃ n : Nat, q = n := ⟨q.toNat, by omega⟩
  subst hn
  have HW3 : Hid (wgtP age half = 1048576 / 2 ^ n) := Lib.hid (by rw [HW2.out]; rfl)
  clear hq HW HW2
  go_enter Tryd.func50, Tryd.ntmps50
  go_wp2_with fail
  go_loopw [5, 6] (fun v i wr => ∃ (k : Nat) (x : Int), k ≤ n ∧ 0 ≤ x ∧ x ≤ 1048576 ∧ v = .int .i64 x ∧ i = .int .i64 k ∧ Hid (1048576 / 2 ^ k = x) ∧ Hid (w = wr)) (fun _ i _ => n - (intOf i).toNat)
  case atStart => exact ⟨0, 1048576, Nat.zero_le _, by omega, by omega, rfl, rfl, Lib.hid rfl, Lib.hid rfl⟩
  case round =>
    obtain ⟨k, x, hk, hx0, hx1, rfl, rfl, hx, hww⟩ := hrel
    by_cases hlt : k < n
    · have hk8 : (k : Int) < (n : Int) := by omega
      obtain ⟨x', hx'⟩ : ∃ x', x.tdiv 2 = x' := ⟨_, rfl⟩
      have hx2 : x' = x / 2 := by rw [← hx']; exact Int.tdiv_eq_ediv_of_nonneg hx0
      have HX : Hid (1048576 / 2 ^ (k + 1) = x') := Lib.hid (by rw [← halve, hx.out, hx2])
      have hx3 : 0 ≤ x' ∧ x' ≤ 1048576 := by omega
      clear hx2
      go_wp2_with fail
      go_roundw
      case rel => exact ⟨k + 1, x', by omega, hx3.1, hx3.2, rfl, by go_num, HX, hww⟩
      case measure => simp [intOf]; omega
    · obtain rfl : n = k := by omega
      go_wp2_with fail
      go_ret
      exact ⟨ret_int (by rw [HW3.out, hx.out]), hww.out⟩

end Go.Proofs.YtnkglbiakjnfjaaDoor
